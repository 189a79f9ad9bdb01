/- Part of a proof; own work. -/
import Derived.Lib.ItoaNum
import Derived.Lib.Strings
import Derived.Lib.Join
import Derived.Lib.ItoaLen
import Derived.Test.YtlemhelnmidpfaaGreatDoorProg
import Derived.Tactics
import Derived.Tactics2
import Derived.Recover
import Derived.KernelRfl
import Derived.Laws.Pointers
import Derived.Laws.Rows
import Derived.Test.YtlemhelnmidpfaaGreatDoorQS9
set_option linter.unusedVariables false
set_option linter.unusedSimpArgs false
set_option maxHeartbeats 16000000
namespace Go.aO
open Go
structure yX where
 kind:Int
 text:List UInt8
 val:Int
 hM:Int
def yX.row (t:yX):List I:=[.int .i64 t.kind,.str t.text,.int .i64 t.val,.int .i64 t.hM]
inductive bh0 (α:Type) where
 |ok (a:α) (r:List yX)
 |err (p e:Int)
 |out
section
variable (DO:Int)
def lI (s:List UInt8):Int:=
 if s=[124,124] then 1 else if s=[38,38] then 2 else if s=[61,61] then 3 else if s=[33,61] then 3
 else if s=[60] then 4 else if s=[60,61] then 4 else if s=[62] then 4 else if s=[62,61] then 4
 else if s=[43] then 5 else if s=[45] then 5 else if s=[42] then 6 else if s=[47] then 6 else if s=[37] then 6 else 0
theorem aI9 (s:List UInt8):0≤lI s∧lI s≤6:=by
 have key: ∀(c:Prop) [Decidable c] (a b:Int),(0≤a∧a≤6)→(0≤b∧b≤6)→0≤(if c then a else b)∧(if c then a else b)≤6:=by
  intro c _ a b U aa
  split
  ·exact U
  ·exact aa
 unfold lI
 repeat' (refine key _ _ _ (by decide) ?_)
 decide
end
def aJ2 (l:List yX) (DO:Int):List I:=[.af 4 (l.map yX.row),.int .i64 DO]
abbrev ps (l:List yX) (DO:Int):aQ:=aQ.of 1 0 [(0,83,aJ2 l DO)] []
abbrev bF:=List UInt8
def mX:bF→bF
 |[]=>[]
 |c::s=>(if c.toNat=34∨c.toNat=92 then[92,c] else[c])++mX s
def Cs (s:bF):bF:=[34]++mX s++[34]
def al.kind:al→Int| .mk k _ _ _ _ _=>k
def al.op:al→bF| .mk _ o _ _ _ _=>o
def ai.kind:ai→Int| .mk k _ _ _ _ _=>k
def nF (x:al) (s:bF) (k:Int):bF:=if x.kind=6∧lI x.op<k then[40]++s++[41] else s
def Qh:List bF→bF
 |s:: _=>[108,101,110,40]++s++[41]
 |[]=>[]
def VI (o:bF):List al→List bF→bF
 |x:: _,s:: _=>o++nF x s 7
 | _,_=>[]
def K6 (o:bF):List al→List bF→bF
 |x::y:: _,s::u:: _=>nF x s (lI o)++[32]++o++[32]++nF y u (lI o+1)
 | _,_=>[]
def G1 (k:Int) (o m t:bF) (n:Int) (l:List al) (Ai:List bF):bF:=
 if k=1 then Lib.itoa n else if k=2 then Cs t else if k=3 then m else if k=4 then Qh Ai else if k=5 then VI o l Ai else K6 o l Ai
mutual
def ee:al→bF
 | .mk k o m t n l=>G1 k o m t n l (E7 l)
def E7:List al→List bF
 |[]=>[]
 |x::l=>ee x::E7 l
end
theorem Jv: ∀l,E7 l=l.map ee
 |[]=>rfl
 |x::l=>by simp only[E7,List.map_cons,Jv l]
def gC (d:Nat) (ps:List bF):bF:=List.replicate d 9++ps.flatten++[10]
def zL:List ai→Bool
 |[y]=>decide (y.kind=2)
 | _=>false
mutual
def ai.lH (d:Nat) (br:bF):ai→bF
 | .mk k m x t a b=>if k=1 then gC d [m,[32,61,32],ee x,[59]]
  else if k=3 then gC d [[119,104,105,108,101,32],ee x,[32,116,105,109,101,115,32],Lib.itoa t,[32,123]]++ai.gW (d+1) a++gC d [[125]]
  else gC d [br,ee x,[32,123]]++ai.gW (d+1) a++(if zL b=true then ai.A8 d b else (if b.isEmpty=true then[] else gC d [[125,32,101,108,115,101,32,123]]++ai.gW (d+1) b)++gC d [[125]])
def ai.gW (d:Nat):List ai→bF
 |[]=>[]
 |x::l=>ai.lH d [105,102,32] x++ai.gW d l
def ai.A8 (d:Nat):List ai→bF
 |[]=>[]
 |y:: _=>ai.lH d [125,32,101,108,115,101,32,105,102,32] y
end
def zI (k n:Int) (s:bF):bF:=if k=2 then Cs s else Lib.itoa n
def o9 (v:ba):bF:=gC 1 [[118,97,114,32],v.name,[58,32],if v.ig=2 then[116,101,120,116,32] else[105,110,116,32],Lib.itoa v.cJ,[32,46,46,32],Lib.itoa v.ad,[32,61,32],zI v.fg v.n v.s,[59]]
def mA (h:bL):bF:=gC 1 [[111,110,32],h.c7,[40],Lib.join h.ps [44,32],[41,32,102,114,111,109,32],h.peer,[32,123]]++ai.gW 2 h.body++gC 1 [[125]]
def yM:List al→bF
 |[]=>[]
 |x:: _=>[32,119,104,101,114,101,32]++ee x
def nC (o:cf):bF:=gC 1 [[111,102,102,101,114,32],o.c7,[40],Lib.join (o.args.map ee) [44,32],[41,32,116,111,32],o.peer,yM o.dk,[59]]
def qx (x:b3):bF:=
 gC 0 [[115,101,114,118,105,99,101,32],x.name,[32,112,108,97,121,115,32],x.bM,[32,111,102,32],x.gJ,[32,123]]++(x.vars.map o9).flatten++(x.hs.map mA).flatten++(x.os.map nC).flatten++gC 0 [[125]]
end Go.aO
namespace Go.aO.T.N
open Go Go.aO Go.Proofs Go.RowKit
set_option maxRecDepth 100000
attribute [local irreducible] Go.aO.av Go.aO.au Go.aO.aY
attribute [go_sem] wrap64 VT VU QO decide_true decide_false dst D0 O0 O1 B0 tV ed fA fB kd I.dW pH I.qY Ro Rt Rr Q1 Rh Ri Rj Q7 Q8 Q9 Ra Rb Rc QV QW Q5 Rs Ru Rq Q2 Rg Re Rf Rk Rv Rw Q6 Rl Rm Q4 Q3 Rn Rd QY QX QU Rx Ry Q0 QZ fN LO LN Env.get zY zX Iu RB RF Cg oC zR Iv RC RE RD o5 sQ qW rN rL rM qq qs hU jD tM OO fw I.fh Ga L7 RO RP Rz RA y9 r1 w4 ur vX LI LH F4 I.cells I.fk I.flat b7 eN gj mG I.one I.js h9 po oJ mQ initFrom pY wa v8 cond_true cond_false beq_self_eq_true Bool.not_true Bool.not_false beq_true beq_false eq_self if_true Option.some.injEq List.length_cons List.length_nil List.take_succ_cons List.take_zero List.drop_succ_cons List.drop_zero List.set_cons_succ List.set_cons_zero List.nil_append List.cons_append List.append_nil and_self Option.map_some Option.map_none List.map_cons List.map_nil Bool.false_eq_true if_false Nat.zero_add Nat.add_zero true_and and_true Bool.and_true Bool.true_and List.getElem?_cons_zero List.getElem?_cons_succ Nat.zero_le Nat.le_refl List.all_cons List.all_nil List.flatten_cons List.flatten_nil r6 tz List.filter_cons List.filter_nil List.contains_cons List.contains_nil Bool.or_false Bool.or_true Bool.false_or Bool.true_or
section
theorem eH (h:bL):h.row=[.str h.c7,.str h.peer,.af 1 (h.ps.map b6),.af 11 (h.body.map ai.row)]:=by rw[bL.row,ai.nG]
theorem eS (o:cf):o.row=[.str o.c7,.str o.peer,.af 6 (o.args.map al.row),.af 6 (o.dk.map al.row)]:=by rw[cf.row,al.nG,al.nG]
theorem dp (l:List bL):eN (l.map bL.row)=true:=lW (fun h=>by simp only[eH,b7,I.flat,cR,ai.ch,Bool.and_self]) l
theorem of_flat (l:List cf):eN (l.map cf.row)=true:=lW (fun o=>by simp only[eS,b7,I.flat,al.ch,Bool.and_self]) l
theorem Qi {R n b:Nat}(ak:R≤140737488355328) (hb:1≤b) (h:n*b≤R):n≤maxLen:=by
 have:n*1≤n*b:=Nat.mul_le_mul_left n hb
 unfold maxLen
 omega
theorem db (l:List ba):eN (l.map ba.row)=true:=lW (fun _=>rfl) l
theorem lK (x:b3):x.cQ= .agg [.str x.name,.str x.bM,.str x.gJ,.af 7 (x.vars.map ba.row),.af 4 (x.hs.map bL.row),.af 4 (x.os.map cf.row)]:=rfl
theorem gQ (x:b3):x.cells=[.str x.name,.str x.bM,.str x.gJ,.af 7 (x.vars.map ba.row),.af 4 (x.hs.map bL.row),.af 4 (x.os.map cf.row)]:=rfl
set_option maxHeartbeats 2000000 in
theorem IW (s:List UInt8):Pure Tryz.prog 306 [.str s] (.int .i64 (lI s)):=by
 refine cM bb Tryz.func306 Yo rfl rfl ?_
 unfold NP TQ
 simp(disch:=omega)only[go_sem,simprocAttr]
 (repeat' first|refine D.S ?_|refine D.jd true true ?_|refine au.nil ?_|refine av.dN ?_|refine D.W ?_|refine D.Z ?_|refine D.G ?_ ?_|refine D.X ‹_› ?_|refine D.jY ‹_› ?_|refine D.lo ‹_› ?_|intro h|refine D.C ?_ ?_)
 all_goals
  simp only[decide_eq_true_eq,decide_eq_false_iff_not]at*
  refine D.r ?_
  refine⟨_,rfl,.aM ?_ rfl,trivial,trivial⟩
  simp_all [lI,I.aM]
theorem P6 {P:Program}{t:TypeId}{z:Value}{n b:Nat}(h:(P.info? t).map (fun i=>(i.zero,i.size,i.bytes))=some (some z,n,b)): ∃i,P.info? t=some i∧i.zero=some z∧i.size=n∧i.bytes=b:=by
 cases ad:P.info? t with
 |none=>rw[ad]at h; cases h
 |some i=>
  rw[ad]at h
  simp only[Option.map_some,Option.some.injEq,Prod.mk.injEq]at h
  exact⟨i,rfl,h.1,h.2.1,h.2.2⟩
def V2:Value:= .agg #[.int .i64 0,.string ByteArray.empty,.string ByteArray.empty,.string ByteArray.empty,.int .i64 0,.slice none 0 0]
def V3:Value:= .agg #[.int .i64 0,.string ByteArray.empty,.int .i64 0,.string ByteArray.empty,.string ByteArray.empty,.string ByteArray.empty,.int .i64 0,.slice none 0 0,.int .i64 0,.slice none 0 0,.slice none 0 0]
end
end Go.aO.T.N
namespace Go.aO.T.N
open Go Go.aO Go.Proofs Go.RowKit
set_option maxRecDepth 100000
attribute [local irreducible] Go.aO.av Go.aO.au Go.aO.aY
section
theorem r4 (l:List UInt8):eN (l.map iY)=true:=lW (fun _=>rfl) l
attribute [local go_sem] iY r4
abbrev rj (T:TypeId) (A:I) (out:List UInt8) (cs:List I):fl:=[(0,T,A:: .own 0 1 (out.map iY)::cs)]
abbrev k0 (out:List UInt8):fm:=[(0,.bX 5 1 (out.map iY).length)]
abbrev tv (T:TypeId) (A:I) (out:List UInt8) (cs:List I):aQ:=aQ.of 1 1 (rj T A out cs) (k0 out)
def BT (T:TypeId) (cs:List I):Prop:=(T=302∧cs=[])∨(T=304∧∃d:Int,cs=[.int .i64 d])
theorem t199 {T:TypeId}{A:I}{cs:List I}(dF:BT T cs) (out:List UInt8) (eh:EH 0 A=true):aY Tryz.prog 360 [.ptr 0 0] (tv T A out cs) (dR (.cT []) (rj T (.ptr 0 0) out cs) (k0 out)):=by
 have aC:liesAt Tryz.prog Tryz.prog.depth T ((I.own 0 1 (out.map iY)::cs).length+1|>(·/Tryz.prog.cellsOf T)) 0 (Tryz.B4.t 72) 1=true:=by
  rcases dF with ⟨rfl,rfl⟩|⟨rfl,d,rfl⟩
  ·kernel_rfl
  ·kernel_rfl
 have:=Zn (c:=tv T A out cs) Tryz.az9 Tryz.Bb.toX72 (T:=T) (b:=0) (a:=A) (cs:= .own 0 1 (out.map iY)::cs) aC rfl eh
 rw[Iu]at this
 exact this.mono fun o c ⟨ar,ax⟩=>by subst ar ax; exact⟨rfl,⟨rfl,trivial⟩,rfl,trivial⟩
def CX (A:I):Prop:=A= .ev (.pointer none)∨A= .ptr 0 0
theorem KZ {A:I}(h:CX A):EH 0 A=true:=by rcases h with rfl|rfl<;>rfl
theorem Sf {T:TypeId}{A:I}{cs:List I}(dF:BT T cs) (eh:CX A) (out s:List UInt8) (aC:out.length+s.length≤1000000000):aY Tryz.prog 307 [.ptr 0 0,.str s] (tv T A out cs) (dR (.cT [.int .i64 (s.length:Int),.ev .nilIface]) (rj T (.ptr 0 0) (out++s) cs) (k0 (out++s))):=by
 have e:=t199 dF out (KZ eh)
 have hb:rowsOf 1 (.str s)=some (s.map iY):=rfl
 have jC:(out.map iY).length=out.length:=List.length_map _
 rcases eh with rfl|rfl<;>rcases dF with ⟨rfl,rfl⟩|⟨rfl,d,rfl⟩
 all_goals
  refine aY.intro bb Tryz.func307 Yp ?_
  unfold NQ TR
  simp(disch:=omega)only[go_sem,simprocAttr]
  refine aj ?_
  refine D.F ⟨[0],[0]⟩ (e) ?_
  refine aj ?_
  (apply au.KV (new:=s.map iY);(·simp(disch:=omega)only[go_sem,simprocAttr]<;>with_reducible rfl);(·simp(disch:=omega)only[go_sem,simprocAttr]<;>with_reducible rfl);(·exact hb);(·simp only[List.length_map]; omega);(·simp only[List.length_map,maxLen]; omega))
  refine aj ?_
  refine D.r ?_
  refine⟨rfl,⟨?_,trivial⟩,?_,trivial⟩
  ·simp only[List.map_append]; rfl
  ·simp only[List.map_append,List.length_append]; rfl
theorem z1 {T:TypeId}{A:I}{cs:List I}(dF:BT T cs) (eh:CX A) (out:List UInt8) (c:UInt8) (z:Int) (aG:(c.toNat:Int)=z) (aC:out.length+1≤1000000000):aY Tryz.prog 309 [.ptr 0 0,.int .u8 z] (tv T A out cs) (dR (.ev .nilIface) (rj T (.ptr 0 0) (out++[c]) cs) (k0 (out++[c]))):=by
 have e:=t199 dF out (KZ eh)
 have jC:(out.map iY).length=out.length:=List.length_map _
 subst aG
 rcases eh with rfl|rfl<;>rcases dF with ⟨rfl,rfl⟩|⟨rfl,d,rfl⟩
 all_goals
  refine aY.intro bb Tryz.func309 Yq ?_
  unfold NR TS
  simp(disch:=omega)only[go_sem,simprocAttr]
  refine aj ?_
  refine D.F ⟨[0],[0]⟩ (e) ?_
  refine aj ?_
  refine D.hQ ?_
  refine aj ?_
  refine D.r ?_
  refine⟨rfl,⟨?_,trivial⟩,?_,trivial⟩
  ·simp only[List.map_append]; rfl
  ·simp only[List.map_append,List.length_append]; rfl
end
section
attribute [local go_sem] iY r4
theorem t129 {T:TypeId}{A:I}{cs:List I}(eh:True) (out:List UInt8) (aU:out≠[]):aY Tryz.prog 223 [.ptr 0 0] (tv T A out cs) (dR (.str out) [] []):=by
 have:=aX9 (c:=tv T A out cs) Tryz.az8 Tryz.Bb (T:=T) (b:=0) (t:=0) (cs:=A:: .own 0 1 (out.map iY)::cs) (l:=out) rfl rfl (by simp only[tv,k0,List.length_map]; rfl) aU
 exact this.mono fun o c ⟨ar,ax⟩=>by subst ar; exact⟨rfl,trivial,trivial⟩
theorem Sq: ∀a b:bF,mX (a++b)=mX a++mX b
 |[],b=>rfl
 |c::a,b=>by simp only[List.cons_append,mX,Sq a b,List.append_assoc]
theorem Ct: ∀a:bF,(mX a).length≤2*a.length
 |[]=>Nat.le_refl _
 |c::a=>by
  have:=Ct a
  simp only[mX,List.length_append,List.length_cons]
  split<;>simp only[List.length_cons,List.length_nil]<;>omega
theorem aP9 {s:bF}{i:Nat}{c:UInt8}(h:s[i]? =some c):mX (s.take (i+1))=mX (s.take i)++(if c.toNat=34∨c.toNat=92 then[92,c] else[c]):=by
 rw[List.take_add_one,h,Sq]
 simp only[Option.toList_some,mX,List.append_nil]
theorem Sg (s:bF) (hs:s.length≤100000000):Pure Tryz.prog 311 [.str s] (.str (Cs s)):=by
 refine cM bb Tryz.func311 Ys rfl rfl ?_
 unfold NS TU
 simp(disch:=omega)only[go_sem,simprocAttr]
 refine D.jd true true ?_
 refine av.dN ?_
 refine dc ?_
 refine D.jd true true ?_
 refine av.dN ?_
 refine dc ?_
 have fa:BT 302 []:= .inl ⟨rfl,rfl⟩
 refine av.ou 0 1 1 5 rfl rfl (by decide) ?_
 simp(disch:=omega)only[go_sem,simprocAttr]
 refine aj ?_
 refine D.F ⟨[0],[0]⟩ (z1 fa (.inl rfl) [] 34 34 rfl (by decide)) ?_
 refine aj ?_
 refine av.c5 (X:=Nat) 0 (fun i=>[(0,.str s),(3,.ptr 0 0),(7,.int .i64 (s.length:Int)),(8,.int .i64 (i:Int))]) (fun i=>rj 302 (.ptr 0 0) ([34]++mX (s.take i)) []) (fun i=>k0 ([34]++mX (s.take i))) (fun i=>i≤s.length) (fun i=>s.length-i) (Nat.zero_le _) ⟨rfl,rfl,rfl,rfl,trivial⟩ ⟨rfl,trivial⟩ ⟨rfl,trivial⟩ ?_
 intro i ad
 try simp only at ad ⊢
 have PP:=Ct (s.take i)
 rw[List.length_take]at PP
 cases ae:s[i]? with
 |some c=>
  have cB:=(List.getElem?_eq_some_iff.1 ae).1
  have d1:(i:Int)<(s.length:Int):=by omega
  have ei:=aP9 ae
  obtain⟨Y,jf⟩: ∃Y,Y=[34]++mX (s.take i):=⟨_,rfl⟩
  have zx:Y.length≤400000000:=by rw[jf]; simp only[List.length_append,List.length_cons,List.length_nil]; omega
  rw[←jf]
  by_cases Hc:c.toNat=34∨c.toNat=92
  ·rw[if_pos Hc]at ei
   have sy:34::mX (s.take (i+1))=Y++[92]++[c]:=by rw[ei,jf]; simp
   clear jf ei
   rcases Hc with h|h
   focus
    have d2:(c.toNat:Int)=34:=by omega
    (repeat' first|(apply au.s rfl;(·simp(disch:=omega)only[go_sem,simprocAttr,d1,d2]<;>with_reducible rfl))|(apply av.s true true;(·simp(disch:=omega)only[go_sem,simprocAttr,d1,d2]<;>with_reducible rfl))|apply au.nil|(refine av.dN ?_)|(apply au.gw;(·simp(disch:=omega)only[go_sem,simprocAttr,d1,d2]<;>with_reducible rfl))|(apply au.gx;(·rfl);(·simp(disch:=omega)only[go_sem,simprocAttr,d1,d2]<;>with_reducible rfl))|(apply au.gs;(·simp(disch:=omega)only[go_sem,simprocAttr,d1,d2]<;>with_reducible rfl))|((first|apply au.gz|apply au.gA|apply au.gB);(·simp(disch:=omega)only[go_sem,simprocAttr,d1,d2]<;>with_reducible rfl);(·simp(disch:=omega)only[go_sem,simprocAttr,d1,d2]<;>with_reducible rfl);(·assumption);(·omega))|intro h)
   rotate_left
   focus
    have d2: ¬(c.toNat:Int)=34:=by omega
    have d3:(c.toNat:Int)=92:=by omega
    (repeat' first|(apply au.s rfl;(·simp(disch:=omega)only[go_sem,simprocAttr,d1,d2,d3]<;>with_reducible rfl))|(apply av.s true true;(·simp(disch:=omega)only[go_sem,simprocAttr,d1,d2,d3]<;>with_reducible rfl))|apply au.nil|(refine av.dN ?_)|(apply au.gw;(·simp(disch:=omega)only[go_sem,simprocAttr,d1,d2,d3]<;>with_reducible rfl))|(apply au.gx;(·rfl);(·simp(disch:=omega)only[go_sem,simprocAttr,d1,d2,d3]<;>with_reducible rfl))|(apply au.gs;(·simp(disch:=omega)only[go_sem,simprocAttr,d1,d2,d3]<;>with_reducible rfl))|((first|apply au.gz|apply au.gA|apply au.gB);(·simp(disch:=omega)only[go_sem,simprocAttr,d1,d2,d3]<;>with_reducible rfl);(·simp(disch:=omega)only[go_sem,simprocAttr,d1,d2,d3]<;>with_reducible rfl);(·assumption);(·omega))|intro h)
   all_goals
    refine D.F ⟨[0],[0]⟩ (z1 fa (.inr rfl) Y 92 92 rfl (by omega)) ?_
    refine aj ?_
    refine D.F ⟨[0],[0]⟩ (z1 fa (.inr rfl) (Y++[92]) c _ rfl (by simp only[List.length_append,List.length_cons,List.length_nil]; omega)) ?_
    refine aj ?_
    refine av.dO (i+1) (by omega) ⟨rfl,rfl,rfl,by simp only[Int.natCast_add]; rfl,trivial⟩ (by rw[sy]; exact⟨rfl,trivial⟩) (by rw[sy]; exact⟨rfl,trivial⟩) rfl rfl (by show s.length-(i+1)<s.length-i; omega)
  ·rw[if_neg Hc]at ei
   have sy:34::mX (s.take (i+1))=Y++[c]:=by rw[ei,jf]; simp
   clear jf ei
   have d2: ¬(c.toNat:Int)=34:=by omega
   have d3: ¬(c.toNat:Int)=92:=by omega
   (have ah:=d1;have z2:=d2;have z3:=d3;refine dE ?_;clear ah z2 z3)
   refine D.F ⟨[0],[0]⟩ (z1 fa (.inr rfl) Y c _ rfl (by omega)) ?_
   refine aj ?_
   refine av.dO (i+1) (by omega) ⟨rfl,rfl,rfl,by simp only[Int.natCast_add]; rfl,trivial⟩ (by rw[sy]; exact⟨rfl,trivial⟩) (by rw[sy]; exact⟨rfl,trivial⟩) rfl rfl (by show s.length-(i+1)<s.length-i; omega)
 |none=>
  have cg:=List.getElem?_eq_none_iff.1 ae
  have cA:i=s.length:=by omega
  subst cA
  have d1: ¬(s.length:Int)<(s.length:Int):=by omega
  rw[List.take_length]at PP ⊢
  (have ah:=d1;refine bE ?_;clear ah)
  refine D.F ⟨[0],[0]⟩ (z1 fa (.inr rfl) (34::mX s) 34 34 rfl (by simp only[List.length_cons]; omega)) ?_
  refine aj ?_
  refine D.F ⟨[0],[0]⟩ (t129 (T:=302) (A:= .ptr 0 0) (cs:=[]) trivial (34::mX s++[34]) (by simp)) ?_
  refine aj ?_
  exact D.rx
end
section
attribute [local go_sem] al.cr al.ch al.ew ai.cr ai.ch ai.ew b6 cR eH eS dp of_flat ba.row db
theorem D.vS {dd:Program}{anns:List I}{l:List bY}{env:Env}{c ci:aQ}{K:Env→aQ→Prop}{Rp:I→aQ→Prop}{f:FuncId}{args:List aJ}{x:aJ}{eg cap:List I}{v bI:I}{d:Nat}(s:bC){fX kM:fl}{fZ kW:fm}{n q:Nat}(hf:di dd f=true) (h:aY dd f eg (aQ.of n q fX fZ) (dR v kM kW)) (aw:au dd anns l ((d,bI)::env) ci K Rp)
  (ab:bp env x= .fn f cap:=by simp (disch:=omega) only[go_sem,simprocAttr]<;>with_reducible rfl)
  (aq:(nodupB s.b&&nodupB s.t&&s.b.all (fun x=>Nat.blt x c.b4)&&s.t.all (fun x=>Nat.blt x c.bj))=true:=by simp (disch:=omega) only[go_sem,simprocAttr]<;>rfl) (aW:s.b.length=n:=by rfl) (ht:s.t.length=q:=by rfl) (hb:(ed n q eg&&(fA n q fX&&fB n q fZ))=true:=by simp (disch:=omega) only[go_sem,simprocAttr]<;>rfl) (U:(fA n q kM&&(fB n q kW&&v.dW n q))=true:=by simp (disch:=omega) only[go_sem,simprocAttr]<;>rfl)
  (fa:ox c.H.aZ s fX:=by repeat first|exact trivial|refine⟨rfl,?_⟩) (dF:oy c.H.tok s fZ:=by repeat first|exact trivial|refine⟨rfl,?_⟩) (aL:args.map (bp env)++cap=fw s eg:=by simp (disch:=omega) only[go_sem,simprocAttr]<;>rfl) (ae:v.fh s=bI:=by simp (disch:=omega) only[go_sem,simprocAttr]<;>with_reducible rfl) (hu:c.li s kM kW=ci:=by simp (disch:=omega) only[go_sem,simprocAttr]<;>with_reducible rfl):au dd anns (⟨some d,none,.gT x args⟩::l) env c K Rp:=by
 subst ae hu
 exact au.Kd rfl ab hf (aY.p2 s h aW ht aq fa dF hb U rfl) aL aw
def dt {α:Type}(g:α→Bool):List α→Nat→Int
 |[],_=> -1
 |x::l,i=>bif g x then dt g l (i+1) else (i:Int)
theorem IJ {α:Type}(g:α→Bool): ∀(l:List α) (i:Nat),0≤dt g l i↔l.all g=false
 |[],_=>by simp [dt]
 |x::l,i=>by
  simp only[dt,List.all_cons]
  have:=IJ g l (i+1)
  cases h:g x with
  |true=>simpa using this
  |false=>simp
theorem vs {α:Type}(g:α→Bool) (l:List α) (i:Nat):decide (0≤dt g l i)= !(l.all g):=by
 have:=IJ g l i
 cases h:l.all g with
 |true=>rw[h]at this; simpa using this
 |false=>rw[h]at this; simpa using this
theorem ax6:di Tryz.prog 305=true:=by kernel_rfl
theorem aM2 {f:FuncId}(hf:di Tryz.prog f=true) (v:al) (b:Bool) (h:Pure Tryz.prog f [.agg (al.row v)] (.bool b)):aY Tryz.prog 305 [.agg (al.row v),.ptr 0 0] (aQ.of 1 0 [(0,296,[.fn f []])] []) (dR (.bool (!b)) [(0,296,[.fn f []])] []):=by
 rcases v with ⟨jQ,jU,jS,jV,jT,jR⟩
 simp(disch:=omega)only[go_sem,simprocAttr]at h
 refine aY.intro bb Tryz.func305 Yn ?_
 unfold NO TP
 simp(disch:=omega)only[go_sem,simprocAttr]
 refine aj ?_
 refine D.V (hf) (h) ?_
 refine aj ?_
 refine D.r ?_
 exact⟨rfl,⟨rfl,trivial⟩,trivial⟩
theorem aM6 {f:FuncId}(hf:di Tryz.prog f=true) (g:al→Bool) (l:List (al)) (aC:l.length≤1000000000000) (h: ∀v∈l,Pure Tryz.prog f [.agg (al.row v)] (.bool (g v))):aY Tryz.prog 359 [.af 6 (l.map al.row),.fn 305 [.ptr 0 0]] (aQ.of 1 0 [(0,296,[.fn f []])] []) (dR (.int .i64 (dt g l 0)) [(0,296,[.fn f []])] []):=by
 refine aY.intro bb Tryz.func359 YF ?_
 unfold N1 T9
 simp(disch:=omega)only[go_sem,simprocAttr]
 refine aj ?_
 refine av.c5 (X:=Nat) 0 (fun i=>[(0,.af 6 (l.map al.row)),(1,.fn 305 [.ptr 0 0]),(7,.int .i64 ((l.map al.row).length:Int)),(8,.int .i64 (i:Int))]) (fun _=>[(0,296,[.fn f []])]) (fun _=>[]) (fun i=>i≤l.length∧dt g (l.drop i) i=dt g l 0) (fun i=>l.length-i) ⟨Nat.zero_le _,rfl⟩ ⟨rfl,rfl,rfl,rfl,trivial⟩ ⟨rfl,trivial⟩ trivial ?_
 rintro i ⟨ad,aG⟩
 try simp only at ad aG ⊢
 cases ae:l[i]? with
 |some v=>
  have cB:=(List.getElem?_eq_some_iff.1 ae).1
  rw[fY ae]at aG
  simp only[dt]at aG
  have d1:(i:Int)<((l.map al.row).length:Int):=by rw[List.length_map]; omega
  have e:=aM2 hf v (g v) (h v (List.mem_of_getElem? ae))
  generalize g v=b at e aG
  clear h
  rcases v with ⟨jQ,jU,jS,jV,jT,jR⟩
  simp(disch:=omega)only[go_sem,simprocAttr]at e
  (have ah:=d1;refine bE ?_;clear ah)
  refine D.vS ⟨[0],[]⟩ ax6 e ?_
  cases b
  ·refine aj ?_
   refine D.r ?_
   exact⟨by rw[←aG]; rfl,⟨rfl,trivial⟩,trivial⟩
  ·refine aj ?_
   refine av.dO (i+1) ⟨by omega,aG⟩ ⟨rfl,rfl,rfl,by simp only[Int.natCast_add]; rfl,trivial⟩ ⟨rfl,trivial⟩ trivial rfl rfl (by show l.length-(i+1)<l.length-i; omega)
 |none=>
  have cg:=List.getElem?_eq_none_iff.1 ae
  have cA:i=l.length:=by omega
  subst cA
  have d1: ¬(l.length:Int)<((l.map al.row).length:Int):=by rw[List.length_map]; omega
  rw[List.drop_length]at aG
  (have ah:=d1;refine bE ?_;clear ah)
  refine D.r ?_
  exact⟨by rw[←aG]; rfl,⟨rfl,trivial⟩,trivial⟩
theorem aM1 {f:FuncId}(hf:di Tryz.prog f=true) (g:al→Bool) (l:List (al)) (aC:l.length≤1000000000000) (h: ∀v∈l,Pure Tryz.prog f [.agg (al.row v)] (.bool (g v))):aY Tryz.prog 304 [.af 6 (l.map al.row),.fn 305 [.ptr 0 0]] (aQ.of 1 0 [(0,296,[.fn f []])] []) (dR (.bool (!(l.all g))) [(0,296,[.fn f []])] []):=by
 have e:=aM6 hf g l aC h
 refine aY.intro bb Tryz.func304 Ym ?_
 unfold NN TO
 simp(disch:=omega)only[go_sem,simprocAttr]
 refine aj ?_
 refine D.F ⟨[0],[]⟩ (e) ?_
 refine aj ?_
 refine D.r ?_
 exact⟨by rw[←vs g l 0],⟨rfl,trivial⟩,trivial⟩
theorem IU {f:FuncId}(hf:di Tryz.prog f=true) (g:al→Bool) (l:List (al)) (aC:l.length≤1000000000000) (h: ∀v∈l,Pure Tryz.prog f [.agg (al.row v)] (.bool (g v))):Pure Tryz.prog 214 [.af 6 (l.map al.row),.fn f []] (.bool (l.all g)):=by
 have e:=aM1 hf g l aC h
 refine cM bb Tryz.func214 XM (by simp only[b7,I.flat,al.ch,Bool.and_self]) rfl ?_
 unfold Nh Te
 simp(disch:=omega)only[go_sem,simprocAttr]
 refine aj ?_
 refine D.F ⟨[0],[]⟩ (e) ?_
 refine aj ?_
 refine D.r ?_
 exact⟨_,rfl,.aM (by rw[Bool.not_not]; rfl) rfl,trivial,trivial⟩
theorem ax5:di Tryz.prog 301=true:=by kernel_rfl
theorem aL9 {f:FuncId}(hf:di Tryz.prog f=true) (v:ai) (b:Bool) (h:Pure Tryz.prog f [.agg (ai.row v)] (.bool b)):aY Tryz.prog 301 [.agg (ai.row v),.ptr 0 0] (aQ.of 1 0 [(0,293,[.fn f []])] []) (dR (.bool (!b)) [(0,293,[.fn f []])] []):=by
 rcases v with ⟨k,ja,⟨jQ,jU,jS,jV,jT,jR⟩,aZ4,lJ,mZ⟩
 simp(disch:=omega)only[go_sem,simprocAttr]at h
 refine aY.intro bb Tryz.func301 Yk ?_
 unfold NL TM
 simp(disch:=omega)only[go_sem,simprocAttr]
 refine aj ?_
 refine D.V (hf) (h) ?_
 refine aj ?_
 refine D.r ?_
 exact⟨rfl,⟨rfl,trivial⟩,trivial⟩
theorem aM5 {f:FuncId}(hf:di Tryz.prog f=true) (g:ai→Bool) (l:List (ai)) (aC:l.length≤1000000000000) (h: ∀v∈l,Pure Tryz.prog f [.agg (ai.row v)] (.bool (g v))):aY Tryz.prog 358 [.af 11 (l.map ai.row),.fn 301 [.ptr 0 0]] (aQ.of 1 0 [(0,293,[.fn f []])] []) (dR (.int .i64 (dt g l 0)) [(0,293,[.fn f []])] []):=by
 refine aY.intro bb Tryz.func358 YE ?_
 unfold N0 T8
 simp(disch:=omega)only[go_sem,simprocAttr]
 refine aj ?_
 refine av.c5 (X:=Nat) 0 (fun i=>[(0,.af 11 (l.map ai.row)),(1,.fn 301 [.ptr 0 0]),(7,.int .i64 ((l.map ai.row).length:Int)),(8,.int .i64 (i:Int))]) (fun _=>[(0,293,[.fn f []])]) (fun _=>[]) (fun i=>i≤l.length∧dt g (l.drop i) i=dt g l 0) (fun i=>l.length-i) ⟨Nat.zero_le _,rfl⟩ ⟨rfl,rfl,rfl,rfl,trivial⟩ ⟨rfl,trivial⟩ trivial ?_
 rintro i ⟨ad,aG⟩
 try simp only at ad aG ⊢
 cases ae:l[i]? with
 |some v=>
  have cB:=(List.getElem?_eq_some_iff.1 ae).1
  rw[fY ae]at aG
  simp only[dt]at aG
  have d1:(i:Int)<((l.map ai.row).length:Int):=by rw[List.length_map]; omega
  have e:=aL9 hf v (g v) (h v (List.mem_of_getElem? ae))
  generalize g v=b at e aG
  clear h
  rcases v with ⟨k,ja,⟨jQ,jU,jS,jV,jT,jR⟩,aZ4,lJ,mZ⟩
  simp(disch:=omega)only[go_sem,simprocAttr]at e
  (have ah:=d1;refine bE ?_;clear ah)
  refine D.vS ⟨[0],[]⟩ ax5 e ?_
  cases b
  ·refine aj ?_
   refine D.r ?_
   exact⟨by rw[←aG]; rfl,⟨rfl,trivial⟩,trivial⟩
  ·refine aj ?_
   refine av.dO (i+1) ⟨by omega,aG⟩ ⟨rfl,rfl,rfl,by simp only[Int.natCast_add]; rfl,trivial⟩ ⟨rfl,trivial⟩ trivial rfl rfl (by show l.length-(i+1)<l.length-i; omega)
 |none=>
  have cg:=List.getElem?_eq_none_iff.1 ae
  have cA:i=l.length:=by omega
  subst cA
  have d1: ¬(l.length:Int)<((l.map ai.row).length:Int):=by rw[List.length_map]; omega
  rw[List.drop_length]at aG
  (have ah:=d1;refine bE ?_;clear ah)
  refine D.r ?_
  exact⟨by rw[←aG]; rfl,⟨rfl,trivial⟩,trivial⟩
theorem aL8 {f:FuncId}(hf:di Tryz.prog f=true) (g:ai→Bool) (l:List (ai)) (aC:l.length≤1000000000000) (h: ∀v∈l,Pure Tryz.prog f [.agg (ai.row v)] (.bool (g v))):aY Tryz.prog 300 [.af 11 (l.map ai.row),.fn 301 [.ptr 0 0]] (aQ.of 1 0 [(0,293,[.fn f []])] []) (dR (.bool (!(l.all g))) [(0,293,[.fn f []])] []):=by
 have e:=aM5 hf g l aC h
 refine aY.intro bb Tryz.func300 Yj ?_
 unfold NK TL
 simp(disch:=omega)only[go_sem,simprocAttr]
 refine aj ?_
 refine D.F ⟨[0],[]⟩ (e) ?_
 refine aj ?_
 refine D.r ?_
 exact⟨by rw[←vs g l 0],⟨rfl,trivial⟩,trivial⟩
theorem EQ {f:FuncId}(hf:di Tryz.prog f=true) (g:ai→Bool) (l:List (ai)) (aC:l.length≤1000000000000) (h: ∀v∈l,Pure Tryz.prog f [.agg (ai.row v)] (.bool (g v))):Pure Tryz.prog 207 [.af 11 (l.map ai.row),.fn f []] (.bool (l.all g)):=by
 have e:=aL8 hf g l aC h
 refine cM bb Tryz.func207 XE (by simp only[b7,I.flat,ai.ch,Bool.and_self]) rfl ?_
 unfold M8 S6
 simp(disch:=omega)only[go_sem,simprocAttr]
 refine aj ?_
 refine D.F ⟨[0],[]⟩ (e) ?_
 refine aj ?_
 refine D.r ?_
 exact⟨_,rfl,.aM (by rw[Bool.not_not]; rfl) rfl,trivial,trivial⟩
theorem aw5:di Tryz.prog 199=true:=by kernel_rfl
theorem aJ8 {f:FuncId}(hf:di Tryz.prog f=true) (v:ba) (b:Bool) (h:Pure Tryz.prog f [.agg (ba.row v)] (.bool b)):aY Tryz.prog 199 [.agg (ba.row v),.ptr 0 0] (aQ.of 1 0 [(0,211,[.fn f []])] []) (dR (.bool (!b)) [(0,211,[.fn f []])] []):=by
 simp(disch:=omega)only[go_sem,simprocAttr]at h
 refine aY.intro bb Tryz.func199 Xv ?_
 unfold M0 SX
 simp(disch:=omega)only[go_sem,simprocAttr]
 refine aj ?_
 refine D.V (hf) (h) ?_
 refine aj ?_
 refine D.r ?_
 exact⟨rfl,⟨rfl,trivial⟩,trivial⟩
theorem aL1 {f:FuncId}(hf:di Tryz.prog f=true) (g:ba→Bool) (l:List (ba)) (aC:l.length≤1000000000000) (h: ∀v∈l,Pure Tryz.prog f [.agg (ba.row v)] (.bool (g v))):aY Tryz.prog 261 [.af 7 (l.map ba.row),.fn 199 [.ptr 0 0]] (aQ.of 1 0 [(0,211,[.fn f []])] []) (dR (.int .i64 (dt g l 0)) [(0,211,[.fn f []])] []):=by
 refine aY.intro bb Tryz.func261 Lu ?_
 unfold GF I6
 simp(disch:=omega)only[go_sem,simprocAttr]
 refine aj ?_
 refine av.c5 (X:=Nat) 0 (fun i=>[(0,.af 7 (l.map ba.row)),(1,.fn 199 [.ptr 0 0]),(7,.int .i64 ((l.map ba.row).length:Int)),(8,.int .i64 (i:Int))]) (fun _=>[(0,211,[.fn f []])]) (fun _=>[]) (fun i=>i≤l.length∧dt g (l.drop i) i=dt g l 0) (fun i=>l.length-i) ⟨Nat.zero_le _,rfl⟩ ⟨rfl,rfl,rfl,rfl,trivial⟩ ⟨rfl,trivial⟩ trivial ?_
 rintro i ⟨ad,aG⟩
 try simp only at ad aG ⊢
 cases ae:l[i]? with
 |some v=>
  have cB:=(List.getElem?_eq_some_iff.1 ae).1
  rw[fY ae]at aG
  simp only[dt]at aG
  have d1:(i:Int)<((l.map ba.row).length:Int):=by rw[List.length_map]; omega
  have e:=aJ8 hf v (g v) (h v (List.mem_of_getElem? ae))
  generalize g v=b at e aG
  clear h
  simp(disch:=omega)only[go_sem,simprocAttr]at e
  (have ah:=d1;refine bE ?_;clear ah)
  refine D.vS ⟨[0],[]⟩ aw5 e ?_
  cases b
  ·refine aj ?_
   refine D.r ?_
   exact⟨by rw[←aG]; rfl,⟨rfl,trivial⟩,trivial⟩
  ·refine aj ?_
   refine av.dO (i+1) ⟨by omega,aG⟩ ⟨rfl,rfl,rfl,by simp only[Int.natCast_add]; rfl,trivial⟩ ⟨rfl,trivial⟩ trivial rfl rfl (by show l.length-(i+1)<l.length-i; omega)
 |none=>
  have cg:=List.getElem?_eq_none_iff.1 ae
  have cA:i=l.length:=by omega
  subst cA
  have d1: ¬(l.length:Int)<((l.map ba.row).length:Int):=by rw[List.length_map]; omega
  rw[List.drop_length]at aG
  (have ah:=d1;refine bE ?_;clear ah)
  refine D.r ?_
  exact⟨by rw[←aG]; rfl,⟨rfl,trivial⟩,trivial⟩
theorem aJ7 {f:FuncId}(hf:di Tryz.prog f=true) (g:ba→Bool) (l:List (ba)) (aC:l.length≤1000000000000) (h: ∀v∈l,Pure Tryz.prog f [.agg (ba.row v)] (.bool (g v))):aY Tryz.prog 162 [.af 7 (l.map ba.row),.fn 199 [.ptr 0 0]] (aQ.of 1 0 [(0,211,[.fn f []])] []) (dR (.bool (!(l.all g))) [(0,211,[.fn f []])] []):=by
 have e:=aL1 hf g l aC h
 refine aY.intro bb Tryz.func162 Lq ?_
 unfold Gy I2
 simp(disch:=omega)only[go_sem,simprocAttr]
 refine aj ?_
 refine D.F ⟨[0],[]⟩ (e) ?_
 refine aj ?_
 refine D.r ?_
 exact⟨by rw[←vs g l 0],⟨rfl,trivial⟩,trivial⟩
theorem aM7 {f:FuncId}(hf:di Tryz.prog f=true) (g:ba→Bool) (l:List (ba)) (aC:l.length≤1000000000000) (h: ∀v∈l,Pure Tryz.prog f [.agg (ba.row v)] (.bool (g v))):Pure Tryz.prog 110 [.af 7 (l.map ba.row),.fn f []] (.bool (l.all g)):=by
 have e:=aJ7 hf g l aC h
 refine cM bb Tryz.func110 W1 (by simp only[b7,I.flat,db,Bool.and_self]) rfl ?_
 unfold Mw Ss
 simp(disch:=omega)only[go_sem,simprocAttr]
 refine aj ?_
 refine D.F ⟨[0],[]⟩ (e) ?_
 refine aj ?_
 refine D.r ?_
 exact⟨_,rfl,.aM (by rw[Bool.not_not]; rfl) rfl,trivial,trivial⟩
theorem aw6:di Tryz.prog 202=true:=by kernel_rfl
theorem aK0 {f:FuncId}(hf:di Tryz.prog f=true) (v:bL) (b:Bool) (h:Pure Tryz.prog f [.agg (bL.row v)] (.bool b)):aY Tryz.prog 202 [.agg (bL.row v),.ptr 0 0] (aQ.of 1 0 [(0,198,[.fn f []])] []) (dR (.bool (!b)) [(0,198,[.fn f []])] []):=by
 simp(disch:=omega)only[go_sem,simprocAttr]at h
 refine aY.intro bb Tryz.func202 Xz ?_
 unfold M3 S1
 simp(disch:=omega)only[go_sem,simprocAttr]
 refine aj ?_
 refine D.V (hf) (h) ?_
 refine aj ?_
 refine D.r ?_
 exact⟨rfl,⟨rfl,trivial⟩,trivial⟩
theorem aL2 {f:FuncId}(hf:di Tryz.prog f=true) (g:bL→Bool) (l:List (bL)) (aC:l.length≤1000000000000) (h: ∀v∈l,Pure Tryz.prog f [.agg (bL.row v)] (.bool (g v))):aY Tryz.prog 183 [.af 4 (l.map bL.row),.fn 202 [.ptr 0 0]] (aQ.of 1 0 [(0,198,[.fn f []])] []) (dR (.int .i64 (dt g l 0)) [(0,198,[.fn f []])] []):=by
 refine aY.intro bb Tryz.func183 FP ?_
 unfold DD EV
 simp(disch:=omega)only[go_sem,simprocAttr]
 refine aj ?_
 refine av.c5 (X:=Nat) 0 (fun i=>[(0,.af 4 (l.map bL.row)),(1,.fn 202 [.ptr 0 0]),(7,.int .i64 ((l.map bL.row).length:Int)),(8,.int .i64 (i:Int))]) (fun _=>[(0,198,[.fn f []])]) (fun _=>[]) (fun i=>i≤l.length∧dt g (l.drop i) i=dt g l 0) (fun i=>l.length-i) ⟨Nat.zero_le _,rfl⟩ ⟨rfl,rfl,rfl,rfl,trivial⟩ ⟨rfl,trivial⟩ trivial ?_
 rintro i ⟨ad,aG⟩
 try simp only at ad aG ⊢
 cases ae:l[i]? with
 |some v=>
  have cB:=(List.getElem?_eq_some_iff.1 ae).1
  rw[fY ae]at aG
  simp only[dt]at aG
  have d1:(i:Int)<((l.map bL.row).length:Int):=by rw[List.length_map]; omega
  have e:=aK0 hf v (g v) (h v (List.mem_of_getElem? ae))
  generalize g v=b at e aG
  clear h
  simp(disch:=omega)only[go_sem,simprocAttr]at e
  (have ah:=d1;refine bE ?_;clear ah)
  refine D.vS ⟨[0],[]⟩ aw6 e ?_
  cases b
  ·refine aj ?_
   refine D.r ?_
   exact⟨by rw[←aG]; rfl,⟨rfl,trivial⟩,trivial⟩
  ·refine aj ?_
   refine av.dO (i+1) ⟨by omega,aG⟩ ⟨rfl,rfl,rfl,by simp only[Int.natCast_add]; rfl,trivial⟩ ⟨rfl,trivial⟩ trivial rfl rfl (by show l.length-(i+1)<l.length-i; omega)
 |none=>
  have cg:=List.getElem?_eq_none_iff.1 ae
  have cA:i=l.length:=by omega
  subst cA
  have d1: ¬(l.length:Int)<((l.map bL.row).length:Int):=by rw[List.length_map]; omega
  rw[List.drop_length]at aG
  (have ah:=d1;refine bE ?_;clear ah)
  refine D.r ?_
  exact⟨by rw[←aG]; rfl,⟨rfl,trivial⟩,trivial⟩
theorem aJ9 {f:FuncId}(hf:di Tryz.prog f=true) (g:bL→Bool) (l:List (bL)) (aC:l.length≤1000000000000) (h: ∀v∈l,Pure Tryz.prog f [.agg (bL.row v)] (.bool (g v))):aY Tryz.prog 96 [.af 4 (l.map bL.row),.fn 202 [.ptr 0 0]] (aQ.of 1 0 [(0,198,[.fn f []])] []) (dR (.bool (!(l.all g))) [(0,198,[.fn f []])] []):=by
 have e:=aL2 hf g l aC h
 refine aY.intro bb Tryz.func96 FW ?_
 unfold zq E1
 simp(disch:=omega)only[go_sem,simprocAttr]
 refine aj ?_
 refine D.F ⟨[0],[]⟩ (e) ?_
 refine aj ?_
 refine D.r ?_
 exact⟨by rw[←vs g l 0],⟨rfl,trivial⟩,trivial⟩
theorem aM9 {f:FuncId}(hf:di Tryz.prog f=true) (g:bL→Bool) (l:List (bL)) (aC:l.length≤1000000000000) (h: ∀v∈l,Pure Tryz.prog f [.agg (bL.row v)] (.bool (g v))):Pure Tryz.prog 112 [.af 4 (l.map bL.row),.fn f []] (.bool (l.all g)):=by
 have e:=aJ9 hf g l aC h
 refine cM bb Tryz.func112 W3 (by simp only[b7,I.flat,dp,Bool.and_self]) rfl ?_
 unfold My Su
 simp(disch:=omega)only[go_sem,simprocAttr]
 refine aj ?_
 refine D.F ⟨[0],[]⟩ (e) ?_
 refine aj ?_
 refine D.r ?_
 exact⟨_,rfl,.aM (by rw[Bool.not_not]; rfl) rfl,trivial,trivial⟩
theorem aw8:di Tryz.prog 210=true:=by kernel_rfl
theorem aK4 {f:FuncId}(hf:di Tryz.prog f=true) (v:cf) (b:Bool) (h:Pure Tryz.prog f [.agg (cf.row v)] (.bool b)):aY Tryz.prog 210 [.agg (cf.row v),.ptr 0 0] (aQ.of 1 0 [(0,213,[.fn f []])] []) (dR (.bool (!b)) [(0,213,[.fn f []])] []):=by
 simp(disch:=omega)only[go_sem,simprocAttr]at h
 refine aY.intro bb Tryz.func210 XI ?_
 unfold Nc Ta
 simp(disch:=omega)only[go_sem,simprocAttr]
 refine aj ?_
 refine D.V (hf) (h) ?_
 refine aj ?_
 refine D.r ?_
 exact⟨rfl,⟨rfl,trivial⟩,trivial⟩
theorem aM0 {f:FuncId}(hf:di Tryz.prog f=true) (g:cf→Bool) (l:List (cf)) (aC:l.length≤1000000000000) (h: ∀v∈l,Pure Tryz.prog f [.agg (cf.row v)] (.bool (g v))):aY Tryz.prog 302 [.af 4 (l.map cf.row),.fn 210 [.ptr 0 0]] (aQ.of 1 0 [(0,213,[.fn f []])] []) (dR (.int .i64 (dt g l 0)) [(0,213,[.fn f []])] []):=by
 refine aY.intro bb Tryz.func302 Yl ?_
 unfold NM TN
 simp(disch:=omega)only[go_sem,simprocAttr]
 refine aj ?_
 refine av.c5 (X:=Nat) 0 (fun i=>[(0,.af 4 (l.map cf.row)),(1,.fn 210 [.ptr 0 0]),(7,.int .i64 ((l.map cf.row).length:Int)),(8,.int .i64 (i:Int))]) (fun _=>[(0,213,[.fn f []])]) (fun _=>[]) (fun i=>i≤l.length∧dt g (l.drop i) i=dt g l 0) (fun i=>l.length-i) ⟨Nat.zero_le _,rfl⟩ ⟨rfl,rfl,rfl,rfl,trivial⟩ ⟨rfl,trivial⟩ trivial ?_
 rintro i ⟨ad,aG⟩
 try simp only at ad aG ⊢
 cases ae:l[i]? with
 |some v=>
  have cB:=(List.getElem?_eq_some_iff.1 ae).1
  rw[fY ae]at aG
  simp only[dt]at aG
  have d1:(i:Int)<((l.map cf.row).length:Int):=by rw[List.length_map]; omega
  have e:=aK4 hf v (g v) (h v (List.mem_of_getElem? ae))
  generalize g v=b at e aG
  clear h
  simp(disch:=omega)only[go_sem,simprocAttr]at e
  (have ah:=d1;refine bE ?_;clear ah)
  refine D.vS ⟨[0],[]⟩ aw8 e ?_
  cases b
  ·refine aj ?_
   refine D.r ?_
   exact⟨by rw[←aG]; rfl,⟨rfl,trivial⟩,trivial⟩
  ·refine aj ?_
   refine av.dO (i+1) ⟨by omega,aG⟩ ⟨rfl,rfl,rfl,by simp only[Int.natCast_add]; rfl,trivial⟩ ⟨rfl,trivial⟩ trivial rfl rfl (by show l.length-(i+1)<l.length-i; omega)
 |none=>
  have cg:=List.getElem?_eq_none_iff.1 ae
  have cA:i=l.length:=by omega
  subst cA
  have d1: ¬(l.length:Int)<((l.map cf.row).length:Int):=by rw[List.length_map]; omega
  rw[List.drop_length]at aG
  (have ah:=d1;refine bE ?_;clear ah)
  refine D.r ?_
  exact⟨by rw[←aG]; rfl,⟨rfl,trivial⟩,trivial⟩
theorem aK3 {f:FuncId}(hf:di Tryz.prog f=true) (g:cf→Bool) (l:List (cf)) (aC:l.length≤1000000000000) (h: ∀v∈l,Pure Tryz.prog f [.agg (cf.row v)] (.bool (g v))):aY Tryz.prog 209 [.af 4 (l.map cf.row),.fn 210 [.ptr 0 0]] (aQ.of 1 0 [(0,213,[.fn f []])] []) (dR (.bool (!(l.all g))) [(0,213,[.fn f []])] []):=by
 have e:=aM0 hf g l aC h
 refine aY.intro bb Tryz.func209 XG ?_
 unfold Na S8
 simp(disch:=omega)only[go_sem,simprocAttr]
 refine aj ?_
 refine D.F ⟨[0],[]⟩ (e) ?_
 refine aj ?_
 refine D.r ?_
 exact⟨by rw[←vs g l 0],⟨rfl,trivial⟩,trivial⟩
theorem aN1 {f:FuncId}(hf:di Tryz.prog f=true) (g:cf→Bool) (l:List (cf)) (aC:l.length≤1000000000000) (h: ∀v∈l,Pure Tryz.prog f [.agg (cf.row v)] (.bool (g v))):Pure Tryz.prog 114 [.af 4 (l.map cf.row),.fn f []] (.bool (l.all g)):=by
 have e:=aK3 hf g l aC h
 refine cM bb Tryz.func114 W5 (by simp only[b7,I.flat,of_flat,Bool.and_self]) rfl ?_
 unfold MA Sw
 simp(disch:=omega)only[go_sem,simprocAttr]
 refine aj ?_
 refine D.F ⟨[0],[]⟩ (e) ?_
 refine aj ?_
 refine D.r ?_
 exact⟨_,rfl,.aM (by rw[Bool.not_not]; rfl) rfl,trivial,trivial⟩
theorem ax4:di Tryz.prog 299=true:=by kernel_rfl
theorem aL7 {f:FuncId}(hf:di Tryz.prog f=true) (v:List UInt8) (b:Bool) (h:Pure Tryz.prog f [.str v] (.bool b)):aY Tryz.prog 299 [.str v,.ptr 0 0] (aQ.of 1 0 [(0,174,[.fn f []])] []) (dR (.bool (!b)) [(0,174,[.fn f []])] []):=by
 refine aY.intro bb Tryz.func299 Yh ?_
 unfold NI TJ
 simp(disch:=omega)only[go_sem,simprocAttr]
 refine aj ?_
 refine D.V (hf) (h) ?_
 refine aj ?_
 refine D.r ?_
 exact⟨rfl,⟨rfl,trivial⟩,trivial⟩
theorem aM3 {f:FuncId}(hf:di Tryz.prog f=true) (g:List UInt8→Bool) (l:List (List UInt8)) (aC:l.length≤1000000000000) (h: ∀v∈l,Pure Tryz.prog f [.str v] (.bool (g v))):aY Tryz.prog 356 [.af 1 (l.map b6),.fn 299 [.ptr 0 0]] (aQ.of 1 0 [(0,174,[.fn f []])] []) (dR (.int .i64 (dt g l 0)) [(0,174,[.fn f []])] []):=by
 refine aY.intro bb Tryz.func356 Ly ?_
 unfold GJ Ja
 simp(disch:=omega)only[go_sem,simprocAttr]
 refine aj ?_
 refine av.c5 (X:=Nat) 0 (fun i=>[(0,.af 1 (l.map b6)),(1,.fn 299 [.ptr 0 0]),(7,.int .i64 ((l.map b6).length:Int)),(8,.int .i64 (i:Int))]) (fun _=>[(0,174,[.fn f []])]) (fun _=>[]) (fun i=>i≤l.length∧dt g (l.drop i) i=dt g l 0) (fun i=>l.length-i) ⟨Nat.zero_le _,rfl⟩ ⟨rfl,rfl,rfl,rfl,trivial⟩ ⟨rfl,trivial⟩ trivial ?_
 rintro i ⟨ad,aG⟩
 try simp only at ad aG ⊢
 cases ae:l[i]? with
 |some v=>
  have cB:=(List.getElem?_eq_some_iff.1 ae).1
  rw[fY ae]at aG
  simp only[dt]at aG
  have d1:(i:Int)<((l.map b6).length:Int):=by rw[List.length_map]; omega
  have e:=aL7 hf v (g v) (h v (List.mem_of_getElem? ae))
  generalize g v=b at e aG
  clear h
  (have ah:=d1;refine bE ?_;clear ah)
  refine D.vS ⟨[0],[]⟩ ax4 e ?_
  cases b
  ·refine aj ?_
   refine D.r ?_
   exact⟨by rw[←aG]; rfl,⟨rfl,trivial⟩,trivial⟩
  ·refine aj ?_
   refine av.dO (i+1) ⟨by omega,aG⟩ ⟨rfl,rfl,rfl,by simp only[Int.natCast_add]; rfl,trivial⟩ ⟨rfl,trivial⟩ trivial rfl rfl (by show l.length-(i+1)<l.length-i; omega)
 |none=>
  have cg:=List.getElem?_eq_none_iff.1 ae
  have cA:i=l.length:=by omega
  subst cA
  have d1: ¬(l.length:Int)<((l.map b6).length:Int):=by rw[List.length_map]; omega
  rw[List.drop_length]at aG
  (have ah:=d1;refine bE ?_;clear ah)
  refine D.r ?_
  exact⟨by rw[←aG]; rfl,⟨rfl,trivial⟩,trivial⟩
theorem aL4 {f:FuncId}(hf:di Tryz.prog f=true) (g:List UInt8→Bool) (l:List (List UInt8)) (aC:l.length≤1000000000000) (h: ∀v∈l,Pure Tryz.prog f [.str v] (.bool (g v))):aY Tryz.prog 296 [.af 1 (l.map b6),.fn 299 [.ptr 0 0]] (aQ.of 1 0 [(0,174,[.fn f []])] []) (dR (.bool (!(l.all g))) [(0,174,[.fn f []])] []):=by
 have e:=aM3 hf g l aC h
 refine aY.intro bb Tryz.func296 Lw ?_
 unfold GH I8
 simp(disch:=omega)only[go_sem,simprocAttr]
 refine aj ?_
 refine D.F ⟨[0],[]⟩ (e) ?_
 refine aj ?_
 refine D.r ?_
 exact⟨by rw[←vs g l 0],⟨rfl,trivial⟩,trivial⟩
theorem aK2 {f:FuncId}(hf:di Tryz.prog f=true) (g:List UInt8→Bool) (l:List (List UInt8)) (aC:l.length≤1000000000000) (h: ∀v∈l,Pure Tryz.prog f [.str v] (.bool (g v))):Pure Tryz.prog 206 [.af 1 (l.map b6),.fn f []] (.bool (l.all g)):=by
 have e:=aL4 hf g l aC h
 refine cM bb Tryz.func206 XD (by simp only[b7,I.flat,cR,Bool.and_self]) rfl ?_
 unfold M7 S5
 simp(disch:=omega)only[go_sem,simprocAttr]
 refine aj ?_
 refine D.F ⟨[0],[]⟩ (e) ?_
 refine aj ?_
 refine D.r ?_
 exact⟨_,rfl,.aM (by rw[Bool.not_not]; rfl) rfl,trivial,trivial⟩
end
section
attribute [local go_sem] al.cr al.ch al.ew ai.cr ai.ch ai.ew b6 cR eH eS dp of_flat ba.row db
def vB (s:bF):Bool:=decide (s.length≤40)&&s.all fk
def uA (n:Int):Bool:=decide (-999999≤n)&&decide (n≤999999)
theorem IQ (n:Int):Pure Tryz.prog 200 [.int .i64 n] (.bool (uA n)):=by
  refine cM bb Tryz.func200 Xx rfl rfl ?_
  unfold M1 SZ
  simp(disch:=omega)only[go_sem,simprocAttr]
  (repeat' first|refine D.S ?_|refine D.jd true true ?_|refine au.nil ?_|refine av.dN ?_|refine D.W ?_|refine D.Z ?_|refine D.G ?_ ?_|refine D.X ‹_› ?_|refine D.jY ‹_› ?_|refine D.lo ‹_› ?_|intro h|refine D.C ?_ ?_)
  all_goals (refine D.R ?_; refine⟨_,rfl,.aM ?_ rfl,trivial,trivial⟩; simp_all [uA,I.aM]<;>(try omega))
theorem Sd (s:bF):Pure Tryz.prog 201 [.str s] (.bool (vB s)):=by
  refine cM bb Tryz.func201 Xy rfl rfl ?_
  unfold M2 S0
  simp(disch:=omega)only[go_sem,simprocAttr]
  (repeat' first|refine D.S ?_|refine D.jd true true ?_|refine au.nil ?_|refine av.dN ?_|refine D.W ?_|refine D.Z ?_|refine D.G ?_ ?_|refine D.X ‹_› ?_|refine D.jY ‹_› ?_|refine D.lo ‹_› ?_|intro h|refine D.C ?_ ?_)
  ·refine D.P (aG4 s) ?_
   refine aj ?_
   refine D.r ?_
   refine⟨_,rfl,.aM ?_ rfl,trivial,trivial⟩
   simp only[decide_eq_true_eq]at h
   have aa:s.length≤40:=by omega
   simp [vB,aa,I.aM]
  ·refine D.r ?_
   refine⟨_,rfl,.aM ?_ rfl,trivial,trivial⟩
   simp only[decide_eq_false_iff_not]at h
   have aa: ¬s.length≤40:=by omega
   simp [vB,aa,I.aM]
def im (k:Int) (o m t:bF) (n:Int) (mV:Nat):Bool:=
  if k=1 then decide (0≤n)&&(decide (n≤1000)&&(decide (mV=0)&&(decide (o=[])&&(decide (m=[])&&decide (t=[])))))
  else if k=2 then vB t&&(decide (mV=0)&&(decide (o=[])&&(decide (m=[])&&decide (n=0))))
  else if k=3 then io m&&(decide (mV=0)&&(decide (o=[])&&(decide (t=[])&&decide (n=0))))
  else if k=4 then decide (mV=1)&&(decide (o=[])&&(decide (m=[])&&(decide (t=[])&&decide (n=0))))
  else if k=5 then (decide (o=[45])||decide (o=[33]))&&(decide (mV=1)&&(decide (m=[])&&(decide (t=[])&&decide (n=0))))
  else if k=6 then !(decide (lI o=0))&&(decide (mV=2)&&(decide (m=[])&&(decide (t=[])&&decide (n=0))))
  else false
mutual
def jo:al→Bool
  | .mk k o m t n l=>im k o m t n l.length&&lx l
def lx:List al→Bool
  |[]=>true
  |x::l=>jo x&&lx l
end
theorem zv: ∀l,lx l=l.all jo
  |[]=>rfl
  |x::l=>by simp only[lx,List.all_cons,zv l]
theorem Qa:di Tryz.prog 215=true:=by kernel_rfl
theorem IV: ∀(N:Nat) (x:al),x.bJ≤N→N≤1000000000→Pure Tryz.prog 215 [.agg x.row] (.bool (jo x))
  |0,.mk k o m t n l,h,_=>by simp only[al.bJ]at h; omega
  |N+1,.mk k o m t n l,cW,ow=>by
   simp only[al.bJ]at cW
   have n5:l.length≤1000000000:=by have:=al.fT l; omega
   have ar:=IU Qa jo l (by omega) fun v ae=>by
     obtain⟨i,ad⟩:=List.getElem?_of_mem ae
     exact IV N v (by have:=al.nx ad; omega) (by omega)
   simp only[jo,zv]
   generalize l.all jo=tL at ar
   have z0:((l.map al.row).length:Int)=(l.length:Int):=by rw[List.length_map]
   refine cM bb Tryz.func215 XN (by simp only[b7,I.flat,al.ew,Bool.and_self]) rfl ?_
   unfold Ni Tf
   simp(disch:=omega)only[go_sem,simprocAttr]
   by_cases U:k=1
   ·subst U
    (repeat' first|(apply au.s rfl;(·simp(disch:=omega)only[go_sem,simprocAttr,z0]<;>with_reducible rfl))|(apply av.s true true;(·simp(disch:=omega)only[go_sem,simprocAttr,z0]<;>with_reducible rfl))|apply au.nil|(refine av.dN ?_)|(apply au.gw;(·simp(disch:=omega)only[go_sem,simprocAttr,z0]<;>with_reducible rfl))|(apply au.gx;(·rfl);(·simp(disch:=omega)only[go_sem,simprocAttr,z0]<;>with_reducible rfl))|(apply au.gs;(·simp(disch:=omega)only[go_sem,simprocAttr,z0]<;>with_reducible rfl))|((first|apply au.gz|apply au.gA|apply au.gB);(·simp(disch:=omega)only[go_sem,simprocAttr,z0]<;>with_reducible rfl);(·simp(disch:=omega)only[go_sem,simprocAttr,z0]<;>with_reducible rfl);(·assumption);(·omega))|intro h|(apply av.cond;(·simp(disch:=omega)only[go_sem,simprocAttr,z0]<;>with_reducible rfl)))
    all_goals first
      |(refine D.R ?_
        refine⟨_,rfl,.aM ?_ rfl,trivial,trivial⟩
        first
          |(simp_all [im,I.aM]; done)
          |(simp_all [im,I.aM]; intros; omega))
      |skip
    refine D.P (ar) ?_
    refine aj ?_
    refine D.r ?_
    refine⟨_,rfl,.aM ?_ rfl,trivial,trivial⟩
    first
      |(simp_all [im,I.aM]; done)
      |(simp_all [im,I.aM]; intros; omega)
   by_cases aa:k=2
   ·subst aa
    (have ah:=z0;refine bE ?_;clear ah)
    refine D.P (Sd t) ?_
    cases ht:vB t
    all_goals
      (repeat' first|(apply au.s rfl;(·simp(disch:=omega)only[go_sem,simprocAttr,z0]<;>with_reducible rfl))|(apply av.s true true;(·simp(disch:=omega)only[go_sem,simprocAttr,z0]<;>with_reducible rfl))|apply au.nil|(refine av.dN ?_)|(apply au.gw;(·simp(disch:=omega)only[go_sem,simprocAttr,z0]<;>with_reducible rfl))|(apply au.gx;(·rfl);(·simp(disch:=omega)only[go_sem,simprocAttr,z0]<;>with_reducible rfl))|(apply au.gs;(·simp(disch:=omega)only[go_sem,simprocAttr,z0]<;>with_reducible rfl))|((first|apply au.gz|apply au.gA|apply au.gB);(·simp(disch:=omega)only[go_sem,simprocAttr,z0]<;>with_reducible rfl);(·simp(disch:=omega)only[go_sem,simprocAttr,z0]<;>with_reducible rfl);(·assumption);(·omega))|intro h|(apply av.cond;(·simp(disch:=omega)only[go_sem,simprocAttr,z0]<;>with_reducible rfl)))
    all_goals first
      |(refine D.R ?_
        refine⟨_,rfl,.aM ?_ rfl,trivial,trivial⟩
        first
          |(simp_all [im,I.aM]; done)
          |(simp_all [im,I.aM]; intros; omega))
      |skip
    refine D.P (ar) ?_
    refine aj ?_
    refine D.r ?_
    refine⟨_,rfl,.aM ?_ rfl,trivial,trivial⟩
    first
      |(simp_all [im,I.aM]; done)
      |(simp_all [im,I.aM]; intros; omega)
   by_cases ay:k=3
   ·subst ay
    (have ah:=z0;refine bE ?_;clear ah)
    refine D.P (qS m) ?_
    cases ht:io m
    all_goals
      (repeat' first|(apply au.s rfl;(·simp(disch:=omega)only[go_sem,simprocAttr,z0]<;>with_reducible rfl))|(apply av.s true true;(·simp(disch:=omega)only[go_sem,simprocAttr,z0]<;>with_reducible rfl))|apply au.nil|(refine av.dN ?_)|(apply au.gw;(·simp(disch:=omega)only[go_sem,simprocAttr,z0]<;>with_reducible rfl))|(apply au.gx;(·rfl);(·simp(disch:=omega)only[go_sem,simprocAttr,z0]<;>with_reducible rfl))|(apply au.gs;(·simp(disch:=omega)only[go_sem,simprocAttr,z0]<;>with_reducible rfl))|((first|apply au.gz|apply au.gA|apply au.gB);(·simp(disch:=omega)only[go_sem,simprocAttr,z0]<;>with_reducible rfl);(·simp(disch:=omega)only[go_sem,simprocAttr,z0]<;>with_reducible rfl);(·assumption);(·omega))|intro h|(apply av.cond;(·simp(disch:=omega)only[go_sem,simprocAttr,z0]<;>with_reducible rfl)))
    all_goals first
      |(refine D.R ?_
        refine⟨_,rfl,.aM ?_ rfl,trivial,trivial⟩
        first
          |(simp_all [im,I.aM]; done)
          |(simp_all [im,I.aM]; intros; omega))
      |skip
    refine D.P (ar) ?_
    refine aj ?_
    refine D.r ?_
    refine⟨_,rfl,.aM ?_ rfl,trivial,trivial⟩
    first
      |(simp_all [im,I.aM]; done)
      |(simp_all [im,I.aM]; intros; omega)
   by_cases bl:k=4
   ·subst bl
    (repeat' first|(apply au.s rfl;(·simp(disch:=omega)only[go_sem,simprocAttr,z0]<;>with_reducible rfl))|(apply av.s true true;(·simp(disch:=omega)only[go_sem,simprocAttr,z0]<;>with_reducible rfl))|apply au.nil|(refine av.dN ?_)|(apply au.gw;(·simp(disch:=omega)only[go_sem,simprocAttr,z0]<;>with_reducible rfl))|(apply au.gx;(·rfl);(·simp(disch:=omega)only[go_sem,simprocAttr,z0]<;>with_reducible rfl))|(apply au.gs;(·simp(disch:=omega)only[go_sem,simprocAttr,z0]<;>with_reducible rfl))|((first|apply au.gz|apply au.gA|apply au.gB);(·simp(disch:=omega)only[go_sem,simprocAttr,z0]<;>with_reducible rfl);(·simp(disch:=omega)only[go_sem,simprocAttr,z0]<;>with_reducible rfl);(·assumption);(·omega))|intro h|(apply av.cond;(·simp(disch:=omega)only[go_sem,simprocAttr,z0]<;>with_reducible rfl)))
    all_goals first
      |(refine D.R ?_
        refine⟨_,rfl,.aM ?_ rfl,trivial,trivial⟩
        first
          |(simp_all [im,I.aM]; done)
          |(simp_all [im,I.aM]; intros; omega))
      |skip
    refine D.P (ar) ?_
    refine aj ?_
    refine D.r ?_
    refine⟨_,rfl,.aM ?_ rfl,trivial,trivial⟩
    first
      |(simp_all [im,I.aM]; done)
      |(simp_all [im,I.aM]; intros; omega)
   by_cases bW:k=5
   ·subst bW
    (repeat' first|(apply au.s rfl;(·simp(disch:=omega)only[go_sem,simprocAttr,z0]<;>with_reducible rfl))|(apply av.s true true;(·simp(disch:=omega)only[go_sem,simprocAttr,z0]<;>with_reducible rfl))|apply au.nil|(refine av.dN ?_)|(apply au.gw;(·simp(disch:=omega)only[go_sem,simprocAttr,z0]<;>with_reducible rfl))|(apply au.gx;(·rfl);(·simp(disch:=omega)only[go_sem,simprocAttr,z0]<;>with_reducible rfl))|(apply au.gs;(·simp(disch:=omega)only[go_sem,simprocAttr,z0]<;>with_reducible rfl))|((first|apply au.gz|apply au.gA|apply au.gB);(·simp(disch:=omega)only[go_sem,simprocAttr,z0]<;>with_reducible rfl);(·simp(disch:=omega)only[go_sem,simprocAttr,z0]<;>with_reducible rfl);(·assumption);(·omega))|intro h|(apply av.cond;(·simp(disch:=omega)only[go_sem,simprocAttr,z0]<;>with_reducible rfl)))
    all_goals first
      |(refine D.R ?_
        refine⟨_,rfl,.aM ?_ rfl,trivial,trivial⟩
        first
          |(simp_all [im,I.aM]; done)
          |(simp_all [im,I.aM]; intros; omega))
      |skip
    all_goals
      refine D.P (ar) ?_
      refine aj ?_
      refine D.r ?_
      refine⟨_,rfl,.aM ?_ rfl,trivial,trivial⟩
      first
        |(simp_all [im,I.aM]; done)
        |(simp_all [im,I.aM]; intros; omega)
   by_cases eL:k=6
   ·subst eL
    (have ah:=z0;refine bE ?_;clear ah)
    refine D.P (IW o) ?_
    (repeat' first|(apply au.s rfl;(·simp(disch:=omega)only[go_sem,simprocAttr,z0]<;>with_reducible rfl))|(apply av.s true true;(·simp(disch:=omega)only[go_sem,simprocAttr,z0]<;>with_reducible rfl))|apply au.nil|(refine av.dN ?_)|(apply au.gw;(·simp(disch:=omega)only[go_sem,simprocAttr,z0]<;>with_reducible rfl))|(apply au.gx;(·rfl);(·simp(disch:=omega)only[go_sem,simprocAttr,z0]<;>with_reducible rfl))|(apply au.gs;(·simp(disch:=omega)only[go_sem,simprocAttr,z0]<;>with_reducible rfl))|((first|apply au.gz|apply au.gA|apply au.gB);(·simp(disch:=omega)only[go_sem,simprocAttr,z0]<;>with_reducible rfl);(·simp(disch:=omega)only[go_sem,simprocAttr,z0]<;>with_reducible rfl);(·assumption);(·omega))|intro h|(apply av.cond;(·simp(disch:=omega)only[go_sem,simprocAttr,z0]<;>with_reducible rfl)))
    all_goals first
      |(refine D.R ?_
        refine⟨_,rfl,.aM ?_ rfl,trivial,trivial⟩
        first
          |(simp_all [im,I.aM]; done)
          |(simp_all [im,I.aM]; intros; omega))
      |skip
    refine D.P (ar) ?_
    refine aj ?_
    refine D.r ?_
    refine⟨_,rfl,.aM ?_ rfl,trivial,trivial⟩
    first
      |(simp_all [im,I.aM]; done)
      |(simp_all [im,I.aM]; intros; omega)
   (have ah:=z0;have z2:=U;have z3:=And.intro aa (And.intro ay (And.intro bl (And.intro bW eL)));refine dE ?_;clear ah z2 z3)
   refine D.r ?_
   refine⟨_,rfl,.aM ?_ rfl,trivial,trivial⟩
   simp [im,U,aa,ay,bl,bW,eL,I.aM]
end
section
attribute [local go_sem] al.cr al.ch al.ew ai.cr ai.ch ai.ew b6 cR
mutual
def oR:al→Nat
 | .mk _ _ _ _ _ l=>1+uF l
def uF:List al→Nat
 |[]=>0
 |x::l=>max (oR x) (uF l)
end
mutual
theorem Gi: ∀x:al,oR x≤x.bJ
 | .mk _ _ _ _ _ l=>by
  have:=Gj l
  simp only[oR,al.bJ]
  omega
theorem Gj: ∀l:List al,uF l≤al.bz l
 |[]=>Nat.le_refl _
 |x::l=>by
  have:=Gi x
  have:=Gj l
  simp only[uF,al.bz]
  omega
end
theorem IT: ∀(N:Nat) (x:al),x.bJ≤N→N≤1000000000→Pure Tryz.prog 212 [.agg x.row] (.int .i64 (oR x:Int))
 |0,.mk k o m t n l,h,_=>by simp only[al.bJ]at h; omega
 |N+1,.mk k o m t n l,cW,ow=>by
  simp only[al.bJ]at cW
  have n5:l.length≤1000000000:=by have:=al.fT l; omega
  have Pp:=Gj l
  simp only[oR]
  refine cM bb Tryz.func212 XK (by simp only[b7,I.flat,al.ew,Bool.and_self]) rfl ?_
  unfold Nf Tc
  simp(disch:=omega)only[go_sem,simprocAttr]
  refine aj ?_
  refine av.c5 (X:=Nat×Nat) (0,0) (fun y=>[(7,.af 6 (l.map al.row)),(8,.int .i64 ((l.map al.row).length:Int)),(9,.int .i64 (y.1:Int)),(3,.int .i64 (y.2:Int))]) (fun _=>[]) (fun _=>[]) (fun y=>y.1≤l.length∧y.2≤uF l∧max y.2 (uF (l.drop y.1))=uF l) (fun y=>l.length-y.1) ⟨Nat.zero_le _,Nat.zero_le _,by simp⟩ ⟨rfl,rfl,rfl,rfl,trivial⟩ trivial trivial ?_
  rintro⟨i,a⟩ ⟨ad,aL,aG⟩
  simp only at ad aL aG ⊢
  cases ae:l[i]? with
  |some v=>
   have cB:=(List.getElem?_eq_some_iff.1 ae).1
   rw[fY ae]at aG
   simp only[uF]at aG
   have d1:(i:Int)<((l.map al.row).length:Int):=by rw[List.length_map]; omega
   have e:=IT N v (by have:=al.nx ae; omega) (by omega)
   obtain⟨q,bw⟩: ∃q,q=oR v:=⟨_,rfl⟩
   rw[←bw]at e aG
   rcases v with ⟨jQ,jU,jS,jV,jT,jR⟩
   simp(disch:=omega)only[go_sem,simprocAttr]at e
   (have ah:=d1;refine bE ?_;clear ah)
   refine D.P (e) ?_
   refine aj ?_
   refine av.oG (i+1,max a q) ⟨by simp only; omega,by simp only; omega,by simp only; omega⟩ ⟨rfl,rfl,by simp only[Int.natCast_add]; rfl,by rw[show ((max a q:Nat):Int)=max (a:Int) (q:Int) by omega]; rfl,trivial⟩ trivial trivial rfl (by simp only[lq,ed,fA,fB,kd,I.dW,cb.bX,go_sem]<;>rfl) (by show l.length-(i+1)<l.length-i; omega)
  |none=>
   have cg:=List.getElem?_eq_none_iff.1 ae
   have cA:i=l.length:=by omega
   subst cA
   have d1: ¬(l.length:Int)<((l.map al.row).length:Int):=by rw[List.length_map]; omega
   rw[List.drop_length]at aG
   simp only[uF]at aG
   (have ah:=d1;refine bE ?_;clear ah)
   refine D.r ?_
   refine⟨_,rfl,.aM ?_ rfl,trivial,trivial⟩
   simp only[I.aM,I.int.injEq,true_and]
   omega
theorem aw9:di Tryz.prog 211=true:=by kernel_rfl
theorem aK5 (x:al) (ab:x.bJ≤1000000000):Pure Tryz.prog 211 [.agg x.row] (.bool (decide (oR x≤10))):=by
 have e:=IT 1000000000 x ab (Nat.le_refl _)
 obtain⟨q,bw⟩: ∃q,q=oR x:=⟨_,rfl⟩
 rw[←bw]at e ⊢
 rcases x with ⟨jQ,jU,jS,jV,jT,jR⟩
 simp(disch:=omega)only[go_sem,simprocAttr]at e
 refine cM bb Tryz.func211 XJ (by simp only[b7,I.flat,al.ew,Bool.and_self]) rfl ?_
 unfold Nd Tb
 simp(disch:=omega)only[go_sem,simprocAttr]
 refine aj ?_
 refine D.P (e) ?_
 refine aj ?_
 refine D.r ?_
 refine⟨_,rfl,.aM ?_ rfl,trivial,trivial⟩
 simp only[I.aM,I.bool.injEq]
 exact decide_eq_decide.2 (by omega)
theorem ah4 (n:Nat) (aU:0<n) (aW:n≤100000000000){c:aQ}:aY Tryz.prog 303 [.aD,.int .i64 (n:Int)] c (ng (.own c.bj 6 []) (c.hz (.bX 80 6 0))):=by
 obtain⟨i,U,aa,ay,bl⟩:=P6 (P:=Tryz.prog) (t:=80) (z:=V2) (n:=6) (b:=88) (by kernel_rfl)
 have:=OY (c:=c) Tryz.OW (i0:=i) (z:=V2) U aa (by omega) (by rw[ay]; rfl) (n:=n) aU (by rw[bl]; omega) (by omega)
 rw[ay]at this
 exact this
theorem ah2 {c:aQ}:aY Tryz.prog 303 [.aD,.int .i64 0] c (ng .aD c):=OV Tryz.OW
theorem ah5 (n:Nat) (aU:0<n) (aW:n≤100000000000){c:aQ}:aY Tryz.prog 355 [.aD,.int .i64 (n:Int)] c (ng (.own c.bj 11 []) (c.hz (.bX 82 11 0))):=by
 obtain⟨i,U,aa,ay,bl⟩:=P6 (P:=Tryz.prog) (t:=82) (z:=V3) (n:=11) (b:=168) (by kernel_rfl)
 have:=OY (c:=c) Tryz.OX (i0:=i) (z:=V3) U aa (by omega) (by rw[ay]; rfl) (n:=n) aU (by rw[bl]; omega) (by omega)
 rw[ay]at this
 exact this
theorem ah3 {c:aQ}:aY Tryz.prog 355 [.aD,.int .i64 0] c (ng .aD c):=OV Tryz.OX
theorem aK6 (a b:List al) (aL:a.length≤1000000000) (hb:b.length≤1000000000):Pure Tryz.prog 213 [.af 1 [[.af 6 (a.map al.row)],[.af 6 (b.map al.row)]]] (.af 6 ((a++b).map al.row)):=by
 have dK:((a.map al.row).length:Int)=(a.length:Int):=by rw[List.length_map]
 have gF:((b.map al.row).length:Int)=(b.length:Int):=by rw[List.length_map]
 refine cM bb Tryz.func213 XL (by simp only[b7,I.flat,eN,al.ch,Bool.and_self]) (by simp only[I.flat,al.ch]) ?_
 unfold Ng Td
 simp(disch:=omega)only[go_sem,simprocAttr]
 refine aj ?_
 refine av.c5 (X:=Nat×Int) (0,0) (fun i=>[(0,.af 1 [[.af 6 (a.map al.row)],[.af 6 (b.map al.row)]]),(2,.aD),(9,.af 1 [[.af 6 (a.map al.row)],[.af 6 (b.map al.row)]]),(10,.int .i64 2),(11,.int .i64 (i.1:Int)),(3,.int .i64 i.2)]) (fun _=>[]) (fun _=>[]) (fun i=>(i.1=0∧i.2=0)∨(i.1=1∧i.2=a.length)∨(i.1=2∧i.2=(a.length:Int)+b.length)) (fun i=>2-i.1) (.inl ⟨rfl,rfl⟩) ⟨rfl,rfl,rfl,rfl,rfl,rfl,trivial⟩ trivial trivial ?_
 rintro⟨i,v⟩ (⟨U,aa⟩|⟨U,aa⟩|⟨U,aa⟩)
 all_goals
  simp only at U aa
  subst U aa
 ·have d1: ¬(a.length:Int)<0:=by omega
  have Km:(0:Int)+(a.length:Int)=(a.length:Int):=by omega
  simp(disch:=omega)only[go_sem,simprocAttr]
  (have ah:=dK;have z2:=Km;have z3:=d1;refine dE ?_;clear ah z2 z3)
  refine av.dO (1,(a.length:Int)) (.inr (.inl ⟨rfl,rfl⟩)) ⟨rfl,rfl,rfl,rfl,rfl,rfl,trivial⟩ trivial trivial rfl rfl (by show 2-1<2-0; decide)
 ·have d1: ¬(a.length:Int)+(b.length:Int)<0:=by omega
  simp(disch:=omega)only[go_sem,simprocAttr]
  (have ah:=gF;have z2:=d1;refine eM ?_;clear ah z2)
  refine av.dO (2,(a.length:Int)+(b.length:Int)) (.inr (.inr ⟨rfl,rfl⟩)) ⟨rfl,rfl,rfl,rfl,rfl,rfl,trivial⟩ trivial trivial rfl rfl (by show 2-2<2-1; decide)
 refine aj ?_
 by_cases aU:a.length+b.length=0
 focus
  have e:(a.length:Int)+(b.length:Int)=0:=by omega
  rw[e]
  (apply au.uB rfl (ah2);(·simp(disch:=omega)only[go_sem,simprocAttr]<;>rfl))
  simp only[zY,zX]
  refine dc ?_
  refine av.uM 6 6 80 rfl (by decide) ?_
  simp(disch:=omega)only[go_sem,simprocAttr]
 rotate_left
 focus
  rw[show (a.length:Int)+(b.length:Int)=((a.length+b.length:Nat):Int) by omega]
  (apply au.uB rfl (ah4 (a.length+b.length) (by omega) (by omega));(·simp(disch:=omega)only[go_sem,simprocAttr]<;>rfl))
  simp only[zY,zX]
  simp(disch:=omega)only[go_sem,simprocAttr]
  (repeat' first|refine D.S ?_|refine au.nil ?_|refine D.W ?_|refine D.Z ?_|refine D.G ?_ ?_|refine D.X ‹_› ?_|refine D.jY ‹_› ?_|refine D.lo ‹_› ?_|intro h)
 all_goals
  refine aj ?_
  refine av.c5 (X:=Nat×List al) (0,[]) (fun i=>[(25,.af 1 [[.af 6 (a.map al.row)],[.af 6 (b.map al.row)]]),(26,.int .i64 2),(27,.int .i64 (i.1:Int)),(6,.own 0 6 (i.2.map al.row))]) (fun _=>[]) (fun i=>[(0,.bX 80 6 (i.2.map al.row).length)]) (fun i=>(i.1=0∧i.2=[])∨(i.1=1∧i.2=a)∨(i.1=2∧i.2=a++b)) (fun i=>2-i.1) (.inl ⟨rfl,rfl⟩) ⟨rfl,rfl,rfl,rfl,trivial⟩ trivial ⟨rfl,trivial⟩ ?_
  rintro⟨i,v⟩ (⟨U,aa⟩|⟨U,aa⟩|⟨U,aa⟩)
  ·simp only at U aa
   subst U aa
   refine aj ?_
   refine D.hQ ?_
   refine aj ?_
   refine av.dO (1,a) (.inr (.inl ⟨rfl,rfl⟩)) ⟨rfl,rfl,rfl,by simp only[List.map_nil,List.nil_append]; rfl,trivial⟩ trivial ⟨by simp only[List.map_nil,List.length_nil,Nat.zero_add]; rfl,trivial⟩ rfl rfl (by show 2-1<2-0; decide)
  ·simp only at U aa
   subst U aa
   refine aj ?_
   refine D.hQ ?_
   refine aj ?_
   refine av.dO (2,v++b) (.inr (.inr ⟨rfl,rfl⟩)) ⟨rfl,rfl,rfl,by simp only[List.map_append]; rfl,trivial⟩ trivial ⟨by simp only[List.map_append,List.length_append]; rfl,trivial⟩ rfl rfl (by show 2-2<2-1; decide)
  ·simp only at U aa
   subst U aa
   refine aj ?_
   refine D.r ?_
   exact⟨_,rfl,.aM rfl (by simp only[I.flat,al.ch]),trivial,trivial⟩
theorem aL3 (a b:List ai) (aL:a.length≤1000000000) (hb:b.length≤1000000000):Pure Tryz.prog 295 [.af 1 [[.af 11 (a.map ai.row)],[.af 11 (b.map ai.row)]]] (.af 11 ((a++b).map ai.row)):=by
 have dK:((a.map ai.row).length:Int)=(a.length:Int):=by rw[List.length_map]
 have gF:((b.map ai.row).length:Int)=(b.length:Int):=by rw[List.length_map]
 refine cM bb Tryz.func295 Yf (by simp only[b7,I.flat,eN,ai.ch,Bool.and_self]) (by simp only[I.flat,ai.ch]) ?_
 unfold NG TH
 simp(disch:=omega)only[go_sem,simprocAttr]
 refine aj ?_
 refine av.c5 (X:=Nat×Int) (0,0) (fun i=>[(0,.af 1 [[.af 11 (a.map ai.row)],[.af 11 (b.map ai.row)]]),(2,.aD),(9,.af 1 [[.af 11 (a.map ai.row)],[.af 11 (b.map ai.row)]]),(10,.int .i64 2),(11,.int .i64 (i.1:Int)),(3,.int .i64 i.2)]) (fun _=>[]) (fun _=>[]) (fun i=>(i.1=0∧i.2=0)∨(i.1=1∧i.2=a.length)∨(i.1=2∧i.2=(a.length:Int)+b.length)) (fun i=>2-i.1) (.inl ⟨rfl,rfl⟩) ⟨rfl,rfl,rfl,rfl,rfl,rfl,trivial⟩ trivial trivial ?_
 rintro⟨i,v⟩ (⟨U,aa⟩|⟨U,aa⟩|⟨U,aa⟩)
 all_goals
  simp only at U aa
  subst U aa
 ·have d1: ¬(a.length:Int)<0:=by omega
  have Km:(0:Int)+(a.length:Int)=(a.length:Int):=by omega
  simp(disch:=omega)only[go_sem,simprocAttr]
  (have ah:=dK;have z2:=Km;have z3:=d1;refine dE ?_;clear ah z2 z3)
  refine av.dO (1,(a.length:Int)) (.inr (.inl ⟨rfl,rfl⟩)) ⟨rfl,rfl,rfl,rfl,rfl,rfl,trivial⟩ trivial trivial rfl rfl (by show 2-1<2-0; decide)
 ·have d1: ¬(a.length:Int)+(b.length:Int)<0:=by omega
  simp(disch:=omega)only[go_sem,simprocAttr]
  (have ah:=gF;have z2:=d1;refine eM ?_;clear ah z2)
  refine av.dO (2,(a.length:Int)+(b.length:Int)) (.inr (.inr ⟨rfl,rfl⟩)) ⟨rfl,rfl,rfl,rfl,rfl,rfl,trivial⟩ trivial trivial rfl rfl (by show 2-2<2-1; decide)
 refine aj ?_
 by_cases aU:a.length+b.length=0
 focus
  have e:(a.length:Int)+(b.length:Int)=0:=by omega
  rw[e]
  (apply au.uB rfl (ah3);(·simp(disch:=omega)only[go_sem,simprocAttr]<;>rfl))
  simp only[zY,zX]
  refine dc ?_
  refine av.uM 6 11 82 rfl (by decide) ?_
  simp(disch:=omega)only[go_sem,simprocAttr]
 rotate_left
 focus
  rw[show (a.length:Int)+(b.length:Int)=((a.length+b.length:Nat):Int) by omega]
  (apply au.uB rfl (ah5 (a.length+b.length) (by omega) (by omega));(·simp(disch:=omega)only[go_sem,simprocAttr]<;>rfl))
  simp only[zY,zX]
  simp(disch:=omega)only[go_sem,simprocAttr]
  (repeat' first|refine D.S ?_|refine au.nil ?_|refine D.W ?_|refine D.Z ?_|refine D.G ?_ ?_|refine D.X ‹_› ?_|refine D.jY ‹_› ?_|refine D.lo ‹_› ?_|intro h)
 all_goals
  refine aj ?_
  refine av.c5 (X:=Nat×List ai) (0,[]) (fun i=>[(25,.af 1 [[.af 11 (a.map ai.row)],[.af 11 (b.map ai.row)]]),(26,.int .i64 2),(27,.int .i64 (i.1:Int)),(6,.own 0 11 (i.2.map ai.row))]) (fun _=>[]) (fun i=>[(0,.bX 82 11 (i.2.map ai.row).length)]) (fun i=>(i.1=0∧i.2=[])∨(i.1=1∧i.2=a)∨(i.1=2∧i.2=a++b)) (fun i=>2-i.1) (.inl ⟨rfl,rfl⟩) ⟨rfl,rfl,rfl,rfl,trivial⟩ trivial ⟨rfl,trivial⟩ ?_
  rintro⟨i,v⟩ (⟨U,aa⟩|⟨U,aa⟩|⟨U,aa⟩)
  ·simp only at U aa
   subst U aa
   refine aj ?_
   refine D.hQ ?_
   refine aj ?_
   refine av.dO (1,a) (.inr (.inl ⟨rfl,rfl⟩)) ⟨rfl,rfl,rfl,by simp only[List.map_nil,List.nil_append]; rfl,trivial⟩ trivial ⟨by simp only[List.map_nil,List.length_nil,Nat.zero_add]; rfl,trivial⟩ rfl rfl (by show 2-1<2-0; decide)
  ·simp only at U aa
   subst U aa
   refine aj ?_
   refine D.hQ ?_
   refine aj ?_
   refine av.dO (2,v++b) (.inr (.inr ⟨rfl,rfl⟩)) ⟨rfl,rfl,rfl,by simp only[List.map_append]; rfl,trivial⟩ trivial ⟨by simp only[List.map_append,List.length_append]; rfl,trivial⟩ rfl rfl (by show 2-2<2-1; decide)
  ·simp only at U aa
   subst U aa
   refine aj ?_
   refine D.r ?_
   exact⟨_,rfl,.aM rfl (by simp only[I.flat,ai.ch]),trivial,trivial⟩
end
section
attribute [local go_sem] al.cr al.ch al.ew ai.cr ai.ch ai.ew b6 cR
mutual
def oq:ai→Nat
 | .mk _ _ x _ a b=>1+max (oR x) (max (kr a) (kr b))
def kr:List ai→Nat
 |[]=>0
 |x::l=>max (oq x) (kr l)
end
theorem Ml: ∀a b,kr (a++b)=max (kr a) (kr b)
 |[],b=>by simp [kr]
 |x::a,b=>by simp only[List.cons_append,kr,Ml a b]; omega
mutual
theorem aa9: ∀x:ai,oq x≤x.bJ
 | .mk _ _ x _ a b=>by
  have:=Gi x
  have:=Dz a
  have:=Dz b
  simp only[oq,ai.bJ]
  omega
theorem Dz: ∀l:List ai,kr l≤ai.bz l
 |[]=>Nat.le_refl _
 |x::l=>by
  have:=aa9 x
  have:=Dz l
  simp only[kr,ai.bz]
  omega
end
theorem ai.AG: ∀a b:List ai,ai.bz (a++b)=ai.bz a+ai.bz b
 |[],b=>by simp [ai.bz]
 |x::a,b=>by simp only[List.cons_append,ai.bz,ai.AG a b]; omega
theorem Se: ∀(N:Nat) (x:ai),x.bJ≤N→N≤1000000000→Pure Tryz.prog 204 [.agg x.row] (.int .i64 (oq x:Int))
 |0,.mk k ja x t a b,h,_=>by simp only[ai.bJ]at h; omega
 |N+1,.mk k ja x t lJ mZ,cW,ow=>by
  simp only[ai.bJ]at cW
  have uW:=ai.fT lJ
  have wI:=ai.fT mZ
  have n5:=ai.fT (lJ++mZ)
  have Ho:=ai.AG lJ mZ
  have Pp:=Dz (lJ++mZ)
  have Pt:=Gi x
  have ex:=IT N x (by omega) (by omega)
  have mN:=aL3 lJ mZ (by omega) (by omega)
  simp only[oq]
  rw[←Ml]
  obtain⟨l,aC⟩: ∃l,l=lJ++mZ:=⟨_,rfl⟩
  rw[←aC]at mN Pp Ho n5 ⊢
  obtain⟨fb,ar3⟩: ∃q,q=oR x:=⟨_,rfl⟩
  rw[←ar3]at ex Pt ⊢
  clear aC
  rcases x with ⟨jQ,jU,jS,jV,jT,jR⟩
  simp(disch:=omega)only[go_sem,simprocAttr]at ex
  refine cM bb Tryz.func204 XB (by simp only[b7,I.flat,ai.ew,Bool.and_self]) rfl ?_
  unfold M5 S3
  simp(disch:=omega)only[go_sem,simprocAttr]
  refine aj ?_
  refine D.P (ex) ?_
  refine aj ?_
  refine D.P (mN) ?_
  refine aj ?_
  refine av.c5 (X:=Nat×Nat) (0,fb) (fun y=>[(14,.af 11 (l.map ai.row)),(15,.int .i64 ((l.map ai.row).length:Int)),(16,.int .i64 (y.1:Int)),(3,.int .i64 (y.2:Int))]) (fun _=>[]) (fun _=>[]) (fun y=>y.1≤l.length∧y.2≤max fb (kr l)∧max y.2 (kr (l.drop y.1))=max fb (kr l)) (fun y=>l.length-y.1) ⟨Nat.zero_le _,by simp only; omega,by simp⟩ ⟨rfl,rfl,rfl,rfl,trivial⟩ trivial trivial ?_
  rintro⟨i,a⟩ ⟨ad,aL,aG⟩
  simp only at ad aL aG ⊢
  cases ae:l[i]? with
  |some v=>
   have cB:=(List.getElem?_eq_some_iff.1 ae).1
   rw[fY ae]at aG
   simp only[kr]at aG
   have d1:(i:Int)<((l.map ai.row).length:Int):=by rw[List.length_map]; omega
   have e:=Se N v (by have:=ai.nx ae; omega) (by omega)
   obtain⟨q,bw⟩: ∃q,q=oq v:=⟨_,rfl⟩
   rw[←bw]at e aG
   rcases v with ⟨fO,aE0,⟨bf1,bf5,bf3,bf6,bf4,bf2⟩,aZ5,aU0,aU1⟩
   simp(disch:=omega)only[go_sem,simprocAttr]at e
   (have ah:=d1;refine bE ?_;clear ah)
   refine D.P (e) ?_
   refine aj ?_
   refine av.oG (i+1,max a q) ⟨by simp only; omega,by simp only; omega,by simp only; omega⟩ ⟨rfl,rfl,by simp only[Int.natCast_add]; rfl,by rw[show ((max a q:Nat):Int)=max (a:Int) (q:Int) by omega]; rfl,trivial⟩ trivial trivial rfl (by simp only[lq,ed,fA,fB,kd,I.dW,cb.bX,go_sem]<;>rfl) (by show l.length-(i+1)<l.length-i; omega)
  |none=>
   have cg:=List.getElem?_eq_none_iff.1 ae
   have cA:i=l.length:=by omega
   subst cA
   have d1: ¬(l.length:Int)<((l.map ai.row).length:Int):=by rw[List.length_map]; omega
   rw[List.drop_length]at aG
   simp only[kr]at aG
   (have ah:=d1;refine bE ?_;clear ah)
   refine D.r ?_
   refine⟨_,rfl,.aM ?_ rfl,trivial,trivial⟩
   simp only[I.aM,I.int.injEq,true_and]
   omega
theorem aw7:di Tryz.prog 203=true:=by kernel_rfl
theorem aK1 (x:ai) (ab:x.bJ≤1000000000):Pure Tryz.prog 203 [.agg x.row] (.bool (decide (oq x≤10))):=by
 have e:=Se 1000000000 x ab (Nat.le_refl _)
 obtain⟨q,bw⟩: ∃q,q=oq x:=⟨_,rfl⟩
 rw[←bw]at e ⊢
 rcases x with ⟨k,ja,⟨jQ,jU,jS,jV,jT,jR⟩,t,a,b⟩
 simp(disch:=omega)only[go_sem,simprocAttr]at e
 refine cM bb Tryz.func203 XA (by simp only[b7,I.flat,ai.ew,Bool.and_self]) rfl ?_
 unfold M4 S2
 simp(disch:=omega)only[go_sem,simprocAttr]
 refine aj ?_
 refine D.P (e) ?_
 refine aj ?_
 refine D.r ?_
 refine⟨_,rfl,.aM ?_ rfl,trivial,trivial⟩
 simp only[I.aM,I.bool.injEq]
 exact decide_eq_decide.2 (by omega)
end
section
attribute [local go_sem] al.cr al.ch al.ew ai.cr ai.ch ai.ew b6 cR ba.row db
def gp (k:Int) (m:bF) (t:Int) (mV b4:Nat):Bool:=
  if k=1 then io m&&(decide (t=0)&&(decide (mV=0)&&decide (b4=0)))
  else if k=2 then decide (m=[])&&decide (t=0)
  else if k=3 then decide (m=[])&&(decide (1≤t)&&(decide (t≤50)&&decide (b4=0)))
  else false
mutual
def ky:ai→Bool
  | .mk k m x t a b=>gp k m t a.length b.length&&(jo x&&(k7 a&&k7 b))
def k7:List ai→Bool
  |[]=>true
  |x::l=>ky x&&k7 l
end
theorem xP: ∀l,k7 l=l.all ky
  |[]=>rfl
  |x::l=>by simp only[k7,List.all_cons,xP l]
theorem H7:di Tryz.prog 208=true:=by kernel_rfl
theorem IS: ∀(N:Nat) (x:ai),x.bJ≤N→N≤1000000000→Pure Tryz.prog 208 [.agg x.row] (.bool (ky x))
  |0,.mk k ja x t a b,h,_=>by simp only[ai.bJ]at h; omega
  |N+1,.mk k ja x t lJ mZ,cW,ow=>by
   simp only[ai.bJ]at cW
   have uW:=ai.fT lJ
   have wI:=ai.fT mZ
   have ex:=IV N x (by omega) (by omega)
   have h8:=EQ H7 ky lJ (by omega) fun v ae=>by
     obtain⟨i,ad⟩:=List.getElem?_of_mem ae
     exact IS N v (by have:=ai.nx ad; omega) (by omega)
   have iB:=EQ H7 ky mZ (by omega) fun v ae=>by
     obtain⟨i,ad⟩:=List.getElem?_of_mem ae
     exact IS N v (by have:=ai.nx ad; omega) (by omega)
   have dK:((lJ.map ai.row).length:Int)=(lJ.length:Int):=by rw[List.length_map]
   have gF:((mZ.map ai.row).length:Int)=(mZ.length:Int):=by rw[List.length_map]
   simp only[ky,xP]
   generalize lJ.all ky=tL at h8
   generalize mZ.all ky=G5 at iB
   generalize jo x=Hb at ex
   clear uW wI cW
   generalize lJ.length=mV at dK ⊢
   generalize mZ.length=b4 at gF ⊢
   rcases x with ⟨jQ,jU,jS,jV,jT,jR⟩
   simp(disch:=omega)only[go_sem,simprocAttr]at ex
   refine cM bb Tryz.func208 XF (by simp only[b7,I.flat,ai.ew,Bool.and_self]) rfl ?_
   unfold M9 S7
   simp(disch:=omega)only[go_sem,simprocAttr]
   by_cases U:k=1
   ·subst U
    (have ah:=dK;have z2:=gF;refine eM ?_;clear ah z2)
    refine D.P (qS ja) ?_
    cases ht:io ja
    ·refine aj ?_
     refine D.r ?_
     refine⟨_,rfl,.aM ?_ rfl,trivial,trivial⟩
     simp_all [gp,I.aM]
    (repeat' first|(apply au.s rfl;(·simp(disch:=omega)only[go_sem,simprocAttr,dK,gF]<;>with_reducible rfl))|(apply av.s true true;(·simp(disch:=omega)only[go_sem,simprocAttr,dK,gF]<;>with_reducible rfl))|apply au.nil|(refine av.dN ?_)|(apply au.gw;(·simp(disch:=omega)only[go_sem,simprocAttr,dK,gF]<;>with_reducible rfl))|(apply au.gx;(·rfl);(·simp(disch:=omega)only[go_sem,simprocAttr,dK,gF]<;>with_reducible rfl))|(apply au.gs;(·simp(disch:=omega)only[go_sem,simprocAttr,dK,gF]<;>with_reducible rfl))|((first|apply au.gz|apply au.gA|apply au.gB);(·simp(disch:=omega)only[go_sem,simprocAttr,dK,gF]<;>with_reducible rfl);(·simp(disch:=omega)only[go_sem,simprocAttr,dK,gF]<;>with_reducible rfl);(·assumption);(·omega))|intro h|(apply av.cond;(·simp(disch:=omega)only[go_sem,simprocAttr,dK,gF]<;>with_reducible rfl)))
    all_goals first
      |(refine D.R ?_
        refine⟨_,rfl,.aM ?_ rfl,trivial,trivial⟩
        first
        |(simp_all [gp,I.aM]; done)
        |(simp_all [gp,I.aM]; intros; omega)
        |(simp_all [gp,I.aM]; omega))
      |skip
    refine D.P (ex) ?_
    cases Hb
    ·refine aj ?_
     refine D.r ?_
     refine⟨_,rfl,.aM ?_ rfl,trivial,trivial⟩
     first
     |(simp_all [gp,I.aM]; done)
     |(simp_all [gp,I.aM]; intros; omega)
     |(simp_all [gp,I.aM]; omega)
    refine aj ?_
    refine D.P (h8) ?_
    cases tL
    ·refine aj ?_
     refine D.r ?_
     refine⟨_,rfl,.aM ?_ rfl,trivial,trivial⟩
     first
     |(simp_all [gp,I.aM]; done)
     |(simp_all [gp,I.aM]; intros; omega)
     |(simp_all [gp,I.aM]; omega)
    refine aj ?_
    refine D.P (iB) ?_
    refine aj ?_
    refine D.r ?_
    refine⟨_,rfl,.aM ?_ rfl,trivial,trivial⟩
    first
    |(simp_all [gp,I.aM]; done)
    |(simp_all [gp,I.aM]; intros; omega)
    |(simp_all [gp,I.aM]; omega)
   by_cases aa:k=2
   ·subst aa
    (repeat' first|(apply au.s rfl;(·simp(disch:=omega)only[go_sem,simprocAttr,dK,gF]<;>with_reducible rfl))|(apply av.s true true;(·simp(disch:=omega)only[go_sem,simprocAttr,dK,gF]<;>with_reducible rfl))|apply au.nil|(refine av.dN ?_)|(apply au.gw;(·simp(disch:=omega)only[go_sem,simprocAttr,dK,gF]<;>with_reducible rfl))|(apply au.gx;(·rfl);(·simp(disch:=omega)only[go_sem,simprocAttr,dK,gF]<;>with_reducible rfl))|(apply au.gs;(·simp(disch:=omega)only[go_sem,simprocAttr,dK,gF]<;>with_reducible rfl))|((first|apply au.gz|apply au.gA|apply au.gB);(·simp(disch:=omega)only[go_sem,simprocAttr,dK,gF]<;>with_reducible rfl);(·simp(disch:=omega)only[go_sem,simprocAttr,dK,gF]<;>with_reducible rfl);(·assumption);(·omega))|intro h|(apply av.cond;(·simp(disch:=omega)only[go_sem,simprocAttr,dK,gF]<;>with_reducible rfl)))
    all_goals first
      |(refine D.R ?_
        refine⟨_,rfl,.aM ?_ rfl,trivial,trivial⟩
        first
        |(simp_all [gp,I.aM]; done)
        |(simp_all [gp,I.aM]; intros; omega)
        |(simp_all [gp,I.aM]; omega))
      |skip
    refine D.P (ex) ?_
    cases Hb
    ·refine aj ?_
     refine D.r ?_
     refine⟨_,rfl,.aM ?_ rfl,trivial,trivial⟩
     first
     |(simp_all [gp,I.aM]; done)
     |(simp_all [gp,I.aM]; intros; omega)
     |(simp_all [gp,I.aM]; omega)
    refine aj ?_
    refine D.P (h8) ?_
    cases tL
    ·refine aj ?_
     refine D.r ?_
     refine⟨_,rfl,.aM ?_ rfl,trivial,trivial⟩
     first
     |(simp_all [gp,I.aM]; done)
     |(simp_all [gp,I.aM]; intros; omega)
     |(simp_all [gp,I.aM]; omega)
    refine aj ?_
    refine D.P (iB) ?_
    refine aj ?_
    refine D.r ?_
    refine⟨_,rfl,.aM ?_ rfl,trivial,trivial⟩
    first
    |(simp_all [gp,I.aM]; done)
    |(simp_all [gp,I.aM]; intros; omega)
    |(simp_all [gp,I.aM]; omega)
   by_cases ay:k=3
   ·subst ay
    (repeat' first|(apply au.s rfl;(·simp(disch:=omega)only[go_sem,simprocAttr,dK,gF]<;>with_reducible rfl))|(apply av.s true true;(·simp(disch:=omega)only[go_sem,simprocAttr,dK,gF]<;>with_reducible rfl))|apply au.nil|(refine av.dN ?_)|(apply au.gw;(·simp(disch:=omega)only[go_sem,simprocAttr,dK,gF]<;>with_reducible rfl))|(apply au.gx;(·rfl);(·simp(disch:=omega)only[go_sem,simprocAttr,dK,gF]<;>with_reducible rfl))|(apply au.gs;(·simp(disch:=omega)only[go_sem,simprocAttr,dK,gF]<;>with_reducible rfl))|((first|apply au.gz|apply au.gA|apply au.gB);(·simp(disch:=omega)only[go_sem,simprocAttr,dK,gF]<;>with_reducible rfl);(·simp(disch:=omega)only[go_sem,simprocAttr,dK,gF]<;>with_reducible rfl);(·assumption);(·omega))|intro h|(apply av.cond;(·simp(disch:=omega)only[go_sem,simprocAttr,dK,gF]<;>with_reducible rfl)))
    all_goals first
      |(refine D.R ?_
        refine⟨_,rfl,.aM ?_ rfl,trivial,trivial⟩
        first
        |(simp_all [gp,I.aM]; done)
        |(simp_all [gp,I.aM]; intros; omega)
        |(simp_all [gp,I.aM]; omega))
      |skip
    refine D.P (ex) ?_
    cases Hb
    ·refine aj ?_
     refine D.r ?_
     refine⟨_,rfl,.aM ?_ rfl,trivial,trivial⟩
     first
     |(simp_all [gp,I.aM]; done)
     |(simp_all [gp,I.aM]; intros; omega)
     |(simp_all [gp,I.aM]; omega)
    refine aj ?_
    refine D.P (h8) ?_
    cases tL
    ·refine aj ?_
     refine D.r ?_
     refine⟨_,rfl,.aM ?_ rfl,trivial,trivial⟩
     first
     |(simp_all [gp,I.aM]; done)
     |(simp_all [gp,I.aM]; intros; omega)
     |(simp_all [gp,I.aM]; omega)
    refine aj ?_
    refine D.P (iB) ?_
    refine aj ?_
    refine D.r ?_
    refine⟨_,rfl,.aM ?_ rfl,trivial,trivial⟩
    first
    |(simp_all [gp,I.aM]; done)
    |(simp_all [gp,I.aM]; intros; omega)
    |(simp_all [gp,I.aM]; omega)
   (have ah:=U;have z2:=aa;have z3:=ay;refine dE ?_;clear ah z2 z3)
   refine D.r ?_
   refine⟨_,rfl,.aM ?_ rfl,trivial,trivial⟩
   simp [gp,U,aa,ay,I.aM]
def sn (v:ba):Bool:=io v.name&&(uA v.cJ&&(uA v.ad&&((decide (v.ig=1)||(decide (v.ig=2)&&(decide (0≤v.cJ)&&decide (0≤v.ad))))&&
  (if v.fg=1 then uA v.n&&decide (v.s=[]) else if v.fg=2 then decide (v.n=0)&&vB v.s else false))))
theorem ay4:di Tryz.prog 111=true:=by kernel_rfl
theorem aM8 (v:ba):Pure Tryz.prog 111 [.agg v.row] (.bool (sn v)):=by
  obtain⟨ja,ig,cJ,ad,fg,n,s⟩:=v
  have wl:=qS ja
  have ad0:=IQ cJ
  have ot:=IQ ad
  have DM:=IQ n
  have On:=Sd s
  simp only[sn]
  generalize io ja=WG at*
  generalize uA cJ=WB at*
  generalize uA ad=FF at*
  generalize uA n=Dj at*
  generalize vB s=K3 at*
  refine cM bb Tryz.func111 W2 rfl rfl ?_
  unfold Mx St
  simp(disch:=omega)only[go_sem,simprocAttr]
  refine aj ?_
  refine D.P (wl) ?_
  cases WG
  ·refine aj ?_
   exact D.rx
  refine aj ?_
  refine D.P (ad0) ?_
  cases WB
  ·refine aj ?_
   exact D.rx
  refine aj ?_
  refine D.P (ot) ?_
  cases FF
  ·refine aj ?_
   exact D.rx
  by_cases bf:ig=1
  focus
    subst bf
    (repeat' first|refine D.S ?_|refine D.jd true true ?_|refine au.nil ?_|refine av.dN ?_|refine D.W ?_|refine D.Z ?_|refine D.G ?_ ?_|refine D.X ‹_› ?_|refine D.jY ‹_› ?_|refine D.lo ‹_› ?_|intro h)
  rotate_left
  focus
    by_cases bi:ig=2
    ·subst bi
     by_cases qI:cJ<0
     ·(have ah:=qI;refine bE ?_;clear ah)
      refine D.r ?_
      refine⟨_,rfl,.aM ?_ rfl,trivial,trivial⟩
      simp [I.aM,show ¬ 0≤cJ by omega]
     by_cases aH:ad<0
     ·(have ah:=qI;have z2:=aH;refine eM ?_;clear ah z2)
      refine D.r ?_
      refine⟨_,rfl,.aM ?_ rfl,trivial,trivial⟩
      simp [I.aM,show ¬ 0≤ad by omega]
     (have ah:=qI;have z2:=aH;refine eM ?_;clear ah z2)
     have fG:0≤cJ:=by omega
     have nw:0≤ad:=by omega
     rw[show (decide ((2:Int)=1)||(decide ((2:Int)=2)&&(decide (0≤cJ)&&decide (0≤ad))))=true by simp [fG,nw]]
     clear qI aH fG nw
     by_cases rB:fg=1
     ·subst rB
      refine aj ?_
      refine D.P (DM) ?_
      cases Dj
      ·refine aj ?_
       exact D.rx
      refine aj ?_
      exact D.rx
     by_cases rC:fg=2
     ·subst rC
      by_cases c8:n=0
      ·(have ah:=c8;refine bE ?_;clear ah)
       refine D.P (On) ?_
       refine aj ?_
       refine D.r ?_
       refine⟨_,rfl,.aM ?_ rfl,trivial,trivial⟩
       simp [I.aM,c8]
      ·(have ah:=c8;refine bE ?_;clear ah)
       refine D.r ?_
       refine⟨_,rfl,.aM ?_ rfl,trivial,trivial⟩
       simp [I.aM,c8]
     (have ah:=rB;have z2:=rC;refine eM ?_;clear ah z2)
     refine D.r ?_
     refine⟨_,rfl,.aM ?_ rfl,trivial,trivial⟩
     simp [I.aM,rB,rC]
    ·(have ah:=bf;have z2:=bi;refine eM ?_;clear ah z2)
     refine D.r ?_
     refine⟨_,rfl,.aM ?_ rfl,trivial,trivial⟩
     simp [I.aM,bf,bi]
  rw[show (decide ((1:Int)=1)||(decide ((1:Int)=2)&&(decide (0≤cJ)&&decide (0≤ad))))=true by simp]
  by_cases rB:fg=1
  ·subst rB
   refine aj ?_
   refine D.P (DM) ?_
   cases Dj
   ·refine aj ?_
    exact D.rx
   refine aj ?_
   exact D.rx
  by_cases rC:fg=2
  ·subst rC
   by_cases c8:n=0
   ·(have ah:=c8;refine bE ?_;clear ah)
    refine D.P (On) ?_
    refine aj ?_
    refine D.r ?_
    refine⟨_,rfl,.aM ?_ rfl,trivial,trivial⟩
    simp [I.aM,c8]
   ·(have ah:=c8;refine bE ?_;clear ah)
    refine D.r ?_
    refine⟨_,rfl,.aM ?_ rfl,trivial,trivial⟩
    simp [I.aM,c8]
  (have ah:=rB;have z2:=rC;refine eM ?_;clear ah z2)
  refine D.r ?_
  refine⟨_,rfl,.aM ?_ rfl,trivial,trivial⟩
  simp [I.aM,rB,rC]
end
section
attribute [local go_sem] al.cr al.ch al.ew ai.cr ai.ch ai.ew b6 cR eH eS dp of_flat
theorem aW7 (s:bF):(w5 s).length≤s.length+1:=by
 have hlen:=Lib.splitB_all wg (Nat.le_refl _) 0 _ ⟨⟨s⟩⟩ rfl
 have hle:=Lib.countB_le wg (Nat.le_refl _) s.length ⟨⟨s⟩⟩ (Nat.le_refl _)
 rw[w5,List.length_map,hlen]
 exact Nat.succ_le_succ hle
theorem ax3:di Tryz.prog 298=true:=by kernel_rfl
theorem aL6 (s:bF):Pure Tryz.prog 298 [.str s] (.bool (!(io s))):=by
 refine cM bb Tryz.func298 Yg rfl rfl ?_
 unfold NH TI
 simp(disch:=omega)only[go_sem,simprocAttr]
 refine aj ?_
 refine D.P (qS s) ?_
 refine aj ?_
 exact D.rx
theorem aM4 {f:FuncId}(hf:di Tryz.prog f=true) (g:bF→Bool) (l:List bF) (aC:l.length≤1000000000000) (h: ∀v∈l,Pure Tryz.prog f [.str v] (.bool (!(g v)))):Pure Tryz.prog 356 [.af 1 (l.map b6),.fn f []] (.int .i64 (dt g l 0)):=by
 refine cM bb Tryz.func356 Ly (by simp only[b7,I.flat,cR,Bool.and_self]) rfl ?_
 unfold GJ Ja
 simp(disch:=omega)only[go_sem,simprocAttr]
 refine aj ?_
 refine av.c5 (X:=Nat) 0 (fun i=>[(0,.af 1 (l.map b6)),(1,.fn f []),(7,.int .i64 ((l.map b6).length:Int)),(8,.int .i64 (i:Int))]) (fun _=>[]) (fun _=>[]) (fun i=>i≤l.length∧dt g (l.drop i) i=dt g l 0) (fun i=>l.length-i) ⟨Nat.zero_le _,rfl⟩ ⟨rfl,rfl,rfl,rfl,trivial⟩ trivial trivial ?_
 rintro i ⟨ad,aG⟩
 try simp only at ad aG ⊢
 cases ae:l[i]? with
 |some v=>
  have cB:=(List.getElem?_eq_some_iff.1 ae).1
  rw[fY ae]at aG
  simp only[dt]at aG
  have d1:(i:Int)<((l.map b6).length:Int):=by rw[List.length_map]; omega
  have e:=h v (List.mem_of_getElem? ae)
  generalize g v=b at e aG
  clear h
  (have ah:=d1;refine bE ?_;clear ah)
  refine D.V (hf) (e) ?_
  cases b
  ·refine aj ?_
   refine D.r ?_
   exact⟨_,rfl,.aM (by rw[←aG]; rfl) rfl,trivial,trivial⟩
  ·refine aj ?_
   refine av.dO (i+1) ⟨by omega,aG⟩ ⟨rfl,rfl,rfl,by simp only[Int.natCast_add]; rfl,trivial⟩ trivial trivial rfl rfl (by show l.length-(i+1)<l.length-i; omega)
 |none=>
  have cg:=List.getElem?_eq_none_iff.1 ae
  have cA:i=l.length:=by omega
  subst cA
  have d1: ¬(l.length:Int)<((l.map b6).length:Int):=by rw[List.length_map]; omega
  rw[List.drop_length]at aG
  (have ah:=d1;refine bE ?_;clear ah)
  refine D.r ?_
  exact⟨_,rfl,.aM (by rw[←aG]; rfl) rfl,trivial,trivial⟩
theorem aL5 {f:FuncId}(hf:di Tryz.prog f=true) (g:bF→Bool) (l:List bF) (aC:l.length≤1000000000000) (h: ∀v∈l,Pure Tryz.prog f [.str v] (.bool (!(g v)))):Pure Tryz.prog 296 [.af 1 (l.map b6),.fn f []] (.bool (!(l.all g))):=by
 have e:=aM4 hf g l aC h
 refine cM bb Tryz.func296 Lw (by simp only[b7,I.flat,cR,Bool.and_self]) rfl ?_
 unfold GH I8
 simp(disch:=omega)only[go_sem,simprocAttr]
 refine aj ?_
 refine D.P (e) ?_
 refine aj ?_
 refine D.r ?_
 exact⟨_,rfl,.aM (by rw[←vs g l 0]; rfl) rfl,trivial,trivial⟩
def rJ (s:bF):Bool:=decide (s.length≤50)&&(w5 s).all io
theorem IR (s:bF):Pure Tryz.prog 205 [.str s] (.bool (rJ s)):=by
 unfold rJ
 refine cM bb Tryz.func205 XC rfl rfl ?_
 unfold M6 S4
 simp(disch:=omega)only[go_sem,simprocAttr]
 by_cases h:s.length≤50
 ·have d:(s.length:Int)≤50:=by omega
  have aC:=aW7 s
  have e:=aL5 ax3 io (w5 s) (by omega) fun v _=>aL6 v
  (have ah:=d;refine bE ?_;clear ah)
  refine D.P (aG7 s (by omega)) ?_
  refine aj ?_
  refine D.P (e) ?_
  refine aj ?_
  refine D.r ?_
  refine⟨_,rfl,.aM ?_ rfl,trivial,trivial⟩
  simp [I.aM,h]
 ·have d: ¬(s.length:Int)≤50:=by omega
  (have ah:=d;refine bE ?_;clear ah)
  refine D.r ?_
  refine⟨_,rfl,.aM ?_ rfl,trivial,trivial⟩
  simp [I.aM,h]
theorem wP:di Tryz.prog 109=true:=by kernel_rfl
theorem ay5:di Tryz.prog 113=true:=by kernel_rfl
theorem ay6:di Tryz.prog 115=true:=by kernel_rfl
def pr (h:bL):Bool:=rJ h.c7&&(io h.peer&&(decide (h.ps.length≤4)&&(h.ps.all io&&(h.body.all ky&&h.body.all (fun x=>decide (oq x≤10))))))
def qA (o:cf):Bool:=rJ o.c7&&(io o.peer&&(decide (o.args.length≤4)&&(decide (o.dk.length≤1)&&((o.args++o.dk).all jo&&(o.args++o.dk).all (fun x=>decide (oR x≤10))))))
theorem ai.wQ {l:List ai}{v:ai}(h:v∈l):v.bJ≤ai.bz l:=by
 obtain⟨i,ad⟩:=List.getElem?_of_mem h
 exact ai.nx ad
theorem al.wQ {l:List al}{v:al}(h:v∈l):v.bJ≤al.bz l:=by
 obtain⟨i,ad⟩:=List.getElem?_of_mem h
 exact al.nx ad
theorem aN0 (h:bL) (hb:ai.bz h.body≤1000000000) (hp:h.ps.length≤1000000000):Pure Tryz.prog 113 [.agg h.row] (.bool (pr h)):=by
 obtain⟨c7,peer,ps,body⟩:=h
 simp only at hb hp
 have bi9:=ai.fT body
 have ar:=IR c7
 have ax:=qS peer
 have bU:=aK2 wP io ps (by omega) fun v _=>qS v
 have dl:=EQ H7 ky body (by omega) fun v ae=>IS 1000000000 v (by have:=ai.wQ ae; omega) (Nat.le_refl _)
 have gn:=EQ aw7 (fun x=>decide (oq x≤10)) body (by omega) fun v ae=>aK1 v (by have:=ai.wQ ae; omega)
 have Au:((ps.map b6).length:Int)=(ps.length:Int):=by rw[List.length_map]
 simp only[pr]
 generalize rJ c7=fz at*
 generalize io peer=iM at*
 generalize ps.all io=kL at*
 generalize body.all ky=qu at*
 generalize (body.all fun x=>decide (oq x≤10))=r0 at*
 refine cM bb Tryz.func113 W4 (by simp only[b7,I.flat,eH,cR,ai.ch,Bool.and_self]) rfl ?_
 unfold Mz Sv
 simp(disch:=omega)only[go_sem,simprocAttr]
 refine aj ?_
 refine D.P (ar) ?_
 cases fz
 ·refine aj ?_
  exact D.rx
 refine aj ?_
 refine D.P (ax) ?_
 cases iM
 ·refine aj ?_
  exact D.rx
 by_cases bl:ps.length≤4
 rotate_left
 ·have d: ¬(ps.length:Int)≤4:=by omega
  (have ah:=Au;have z2:=d;refine eM ?_;clear ah z2)
  refine D.r ?_
  refine⟨_,rfl,.aM ?_ rfl,trivial,trivial⟩
  simp [I.aM,bl]
 have d:(ps.length:Int)≤4:=by omega
 simp only[decide_eq_true bl,Bool.true_and]
 (have ah:=Au;have z2:=d;refine eM ?_;clear ah z2)
 refine D.P (bU) ?_
 cases kL
 ·refine aj ?_
  exact D.rx
 refine aj ?_
 refine D.P (dl) ?_
 cases qu
 ·refine aj ?_
  exact D.rx
 refine aj ?_
 refine D.P (gn) ?_
 refine aj ?_
 exact D.rx
end
section
attribute [local go_sem] al.cr al.ch al.ew ai.cr ai.ch ai.ew b6 cR eH eS dp of_flat
theorem al.AG: ∀a b:List al,al.bz (a++b)=al.bz a+al.bz b
 |[],b=>by simp [al.bz]
 |x::a,b=>by simp only[List.cons_append,al.bz,al.AG a b]; omega
theorem aN2 (o:cf) (hb:al.bz o.args+al.bz o.dk≤1000000000):Pure Tryz.prog 115 [.agg o.row] (.bool (qA o)):=by
 obtain⟨c7,peer,pR,wn⟩:=o
 simp only at hb
 have uW:=al.fT pR
 have uY:=al.fT wn
 have Ho:=al.AG pR wn
 have jC:=al.fT (pR++wn)
 have ar:=IR c7
 have ax:=qS peer
 have cA:=aK6 pR wn (by omega) (by omega)
 have dl:=IU Qa jo (pR++wn) (by omega) fun v ae=>IV 1000000000 v (by have:=al.wQ ae; omega) (Nat.le_refl _)
 have gn:=IU aw9 (fun x=>decide (oR x≤10)) (pR++wn) (by omega) fun v ae=>aK5 v (by have:=al.wQ ae; omega)
 have Au:((pR.map al.row).length:Int)=(pR.length:Int):=by rw[List.length_map]
 have Ko:((wn.map al.row).length:Int)=(wn.length:Int):=by rw[List.length_map]
 simp only[qA]
 generalize rJ c7=fz at*
 generalize io peer=iM at*
 generalize (pR++wn).all jo=qu at*
 generalize ((pR++wn).all fun x=>decide (oR x≤10))=r0 at*
 generalize pR++wn=bh9 at*
 clear Ho jC hb uW uY
 refine cM bb Tryz.func115 W6 (by simp only[b7,I.flat,eS,al.ch,Bool.and_self]) rfl ?_
 unfold MB Sx
 simp(disch:=omega)only[go_sem,simprocAttr]
 refine aj ?_
 refine D.P (cA) ?_
 refine aj ?_
 refine D.P (ar) ?_
 cases fz
 ·refine aj ?_
  exact D.rx
 refine aj ?_
 refine D.P (ax) ?_
 cases iM
 ·refine aj ?_
  exact D.rx
 by_cases bl:pR.length≤4
 rotate_left
 ·have d: ¬(pR.length:Int)≤4:=by omega
  (have ah:=Au;have z2:=d;refine eM ?_;clear ah z2)
  refine D.r ?_
  refine⟨_,rfl,.aM ?_ rfl,trivial,trivial⟩
  simp [I.aM,bl]
 have d:(pR.length:Int)≤4:=by omega
 simp only[decide_eq_true bl,Bool.true_and]
 by_cases U:wn.length≤1
 rotate_left
 ·have d1: ¬(wn.length:Int)≤1:=by omega
  (have ah:=Au;have z2:=d;have z3:=And.intro Ko d1;refine dE ?_;clear ah z2 z3)
  refine D.r ?_
  refine⟨_,rfl,.aM ?_ rfl,trivial,trivial⟩
  simp [I.aM,U]
 have d1:(wn.length:Int)≤1:=by omega
 simp only[decide_eq_true U,Bool.true_and]
 (have ah:=Au;have z2:=d;have z3:=And.intro Ko d1;refine dE ?_;clear ah z2 z3)
 refine D.P (dl) ?_
 cases qu
 ·refine aj ?_
  exact D.rx
 refine aj ?_
 refine D.P (gn) ?_
 refine aj ?_
 exact D.rx
theorem Pu {k:Int}{o m t:bF}{n:Int}{mV:Nat}(h:im k o m t n mV=true):(k=1∧0≤n∧n≤1000∧mV=0)∨(k=2∧t.length≤40∧mV=0)∨(k=3∧mV=0)∨(k=4∧mV=1)∨(k=5∧mV=1)∨(k=6∧mV=2):=by
 unfold im at h
 by_cases U:k=1
 ·simp [U]at h; simp [U,h.1,h.2.1,h.2.2.1]
 by_cases aa:k=2
 ·simp [aa,vB]at h; simp [aa,h.1.1,h.2.1]
 by_cases ay:k=3
 ·simp [ay]at h; simp [ay,h.2.1]
 by_cases bl:k=4
 ·simp [bl]at h; simp [bl,h.1]
 by_cases bW:k=5
 ·simp [bW]at h; simp [bW,h.2.1]
 by_cases eL:k=6
 ·simp [eL]at h; simp [eL,h.2.1]
 simp [U,aa,ay,bl,bW,eL]at h
theorem vv: ∀(N:Nat),(∀x:al,x.bJ≤N→jo x=true→(ee x).length≤1000000000→Pure Tryz.prog 221 [.agg x.row] (.str (ee x)))∧(∀(x:al) (k:Int),x.bJ≤N→jo x=true→(nF x (ee x) k).length≤1000000000→Pure Tryz.prog 314 [.agg x.row,.int .i64 k] (.str (nF x (ee x) k)))
 |0=>⟨fun x h=>by cases x; simp only[al.bJ]at h; omega,fun x k h=>by cases x; simp only[al.bJ]at h; omega⟩
 |N+1=>by
  have key: ∀x:al,x.bJ≤N+1→jo x=true→(ee x).length≤1000000000→Pure Tryz.prog 221 [.agg x.row] (.str (ee x)):=by
   rintro⟨k,o,m,t,n,l⟩ cW a7 hs
   simp only[al.bJ]at cW
   simp only[jo,Bool.and_eq_true]at a7
   obtain⟨a8,jL⟩:=a7
   simp only[ee,Jv]at hs ⊢
   have BJ:=hs
   unfold G1 at hs ⊢
   refine cM bb Tryz.func221 XS (by simp only[b7,I.flat,al.ew,Bool.and_self]) rfl ?_
   unfold GC Tk
   simp(disch:=omega)only[go_sem,simprocAttr]
   rcases Pu a8 with ⟨rfl,aU,U,aa⟩|⟨rfl,aU,U⟩|⟨rfl,aU⟩|⟨rfl,aU⟩|⟨rfl,aU⟩|⟨rfl,aU⟩
   ·refine aj ?_
    refine D.P (Cp n (by omega) (by omega)) ?_
    refine aj ?_
    exact D.rx
   ·refine aj ?_
    refine D.P (Sg t (by omega)) ?_
    refine aj ?_
    exact D.rx
   ·refine aj ?_
    exact D.rx
   ·match l,aU with
    |[x],_=>
    simp only[lx,Bool.and_true]at jL
    simp only[al.bz]at cW
    have lB:([108,101,110,40]++ee x++[41]).length≤1000000000:=hs
    simp only[List.length_append,List.length_cons,List.length_nil]at lB
    have e:=(vv N).1 x (by omega) jL (by omega)
    rcases x with ⟨jQ,jU,jS,jV,jT,jR⟩
    simp(disch:=omega)only[go_sem,simprocAttr]at e
    refine aj ?_
    refine D.P (e) ?_
    refine D.j0 ?_
    refine D.j0 ?_
    refine aj ?_
    exact D.rx
   ·match l,aU with
    |[x],_=>
    simp only[lx,Bool.and_true]at jL
    simp only[al.bz]at cW
    have lB:(o++nF x (ee x) 7).length≤1000000000:=hs
    simp only[List.length_append]at lB
    have e:=(vv N).2 x 7 (by omega) jL (by omega)
    show av Tryz.prog _ _ _ _ (AE (.str (o++nF x (ee x) 7)) [] []) _ _
    generalize nF x (ee x) 7=sY at e lB ⊢
    clear hs BJ
    rcases x with ⟨jQ,jU,jS,jV,jT,jR⟩
    simp(disch:=omega)only[go_sem,simprocAttr]at e
    iterate 7 refine rU ?_
    repeat refine D.jd true true ?_
    refine av.iU (anns:=[.str sY]) ?_
    refine dc ?_
    refine D.fL (e) ?_
    refine D.j0 ?_ (hb:=by simp only[maxLen]; omega)
    refine aj ?_
    exact D.rx
   ·match l,aU with
    |[x,y],_=>
    simp only[lx,Bool.and_true,Bool.and_eq_true]at jL
    simp only[al.bz]at cW
    have lB:(nF x (ee x) (lI o)++[32]++o++[32]++nF y (ee y) (lI o+1)).length≤1000000000:=hs
    simp only[List.length_append,List.length_cons,List.length_nil]at lB
    have e:=(vv N).2 x (lI o) (by omega) jL.1 (by omega)
    have ax:=(vv N).2 y (lI o+1) (by omega) jL.2 (by omega)
    show av Tryz.prog _ _ _ _ (AE (.str (nF x (ee x) (lI o)++[32]++o++[32]++nF y (ee y) (lI o+1))) [] []) _ _
    generalize nF x (ee x) (lI o)=sY at e lB ⊢
    generalize nF y (ee y) (lI o+1)=aY3 at ax lB ⊢
    have hp:=aI9 o
    have pn:=IW o
    generalize lI o=lH at*
    clear hs BJ
    rcases x with ⟨jQ,jU,jS,jV,jT,jR⟩
    rcases y with ⟨s9,yQ,yP,vM,vL,yO⟩
    simp(disch:=omega)only[go_sem,simprocAttr]at e
    simp(disch:=omega)only[go_sem,simprocAttr]at ax
    iterate 7 refine rU ?_
    repeat refine D.jd true true ?_
    refine av.dN ?_
    refine dc ?_
    refine D.P (pn) ?_
    refine dc ?_
    repeat refine D.jd true true ?_
    refine av.iU (anns:=[.str sY,.str aY3]) ?_
    refine dc ?_
    refine D.fL (e) ?_
    refine D.j0 ?_
    refine dc ?_
    refine D.j0 ?_
    refine D.j0 ?_
    refine dc ?_
    refine D.fL (ax) ?_
    refine D.j0 ?_
    refine aj ?_
    exact D.rx
  refine⟨key,fun x k cW a7 hs=> ?_⟩
  have pn:=IW x.op
  by_cases eL:x.kind=6
  ·by_cases aw:lI x.op<k
   ·have pv:nF x (ee x) k=[40]++ee x++[41]:=if_pos ⟨eL,aw⟩
    rw[pv]at hs ⊢
    simp only[List.length_append,List.length_cons,List.length_nil]at hs
    have e:=key x cW a7 (by omega)
    generalize ee x=sY at*
    rcases x with ⟨jQ,jU,jS,jV,jT,jR⟩
    simp only[al.kind,al.op]at eL aw pn
    subst eL
    simp(disch:=omega)only[go_sem,simprocAttr]at e
    refine cM bb Tryz.func314 FU (by simp only[b7,I.flat,al.ew,Bool.and_self]) rfl ?_
    unfold DH EZ
    simp(disch:=omega)only[go_sem,simprocAttr]
    refine aj ?_
    refine D.P (pn) ?_
    (have ah:=aw;refine bE ?_;clear ah)
    refine D.P (e) ?_
    refine D.j0 ?_
    refine D.j0 ?_
    refine aj ?_
    exact D.rx
   ·have pv:nF x (ee x) k=ee x:=if_neg fun h=>aw h.2
    rw[pv]at hs ⊢
    have e:=key x cW a7 (by omega)
    generalize ee x=sY at*
    rcases x with ⟨jQ,jU,jS,jV,jT,jR⟩
    simp only[al.kind,al.op]at eL aw pn
    subst eL
    simp(disch:=omega)only[go_sem,simprocAttr]at e
    refine cM bb Tryz.func314 FU (by simp only[b7,I.flat,al.ew,Bool.and_self]) rfl ?_
    unfold DH EZ
    simp(disch:=omega)only[go_sem,simprocAttr]
    refine aj ?_
    refine D.P (pn) ?_
    (have ah:=aw;refine bE ?_;clear ah)
    refine D.P (e) ?_
    refine aj ?_
    exact D.rx
  ·have pv:nF x (ee x) k=ee x:=if_neg fun h=>eL h.1
   rw[pv]at hs ⊢
   have e:=key x cW a7 (by omega)
   generalize ee x=sY at*
   rcases x with ⟨jQ,jU,jS,jV,jT,jR⟩
   simp only[al.kind]at eL
   simp(disch:=omega)only[go_sem,simprocAttr]at e
   refine cM bb Tryz.func314 FU (by simp only[b7,I.flat,al.ew,Bool.and_self]) rfl ?_
   unfold DH EZ
   simp(disch:=omega)only[go_sem,simprocAttr]
   (have ah:=eL;refine bE ?_;clear ah)
   refine D.P (e) ?_
   refine aj ?_
   exact D.rx
end
section
attribute [local go_sem] iY r4 al.cr al.ch al.ew ai.cr ai.ch ai.ew b6 cR
theorem aK7 (k n:Int) (s:bF) (aW:k≠2→ -1000000000≤n∧n≤1000000000) (hs:s.length≤100000000):Pure Tryz.prog 218 [.agg [.int .i64 k,.int .i64 n,.str s]] (.str (zI k n s)):=by
 refine cM bb Tryz.func218 XP rfl rfl ?_
 unfold Nk Th
 unfold zI
 simp(disch:=omega)only[go_sem,simprocAttr]
 by_cases h:k=2
 ·rw[if_pos h]
  (have ah:=h;refine bE ?_;clear ah)
  refine D.P (Sg s hs) ?_
  refine aj ?_
  exact D.rx
 ·rw[if_neg h]
  (have ah:=h;refine bE ?_;clear ah)
  refine D.P (Cp n (aW h).1 (aW h).2) ?_
  refine aj ?_
  exact D.rx
theorem aw4 {xs:List bF}{sep s:bF}(h:s∈xs):s.length≤(Lib.join xs sep).length:=by
 unfold Lib.join
 induction xs with
 |nil=>cases h
 |cons x l bB=>
  cases l with
  |nil=>simp at h; subst h; simp
  |cons y l=>
   rw[List.intercalate_cons_cons]
   rcases List.mem_cons.1 h with rfl|h
   ·simp only[List.length_append]; omega
   ·have:=bB h
    simp only[List.length_append]; omega
theorem aK8 (l:List al) (aL:al.bz l≤1000000) (a7:l.all jo=true) (hs:(Lib.join (l.map ee) [44,32]).length≤1000000000):Pure Tryz.prog 222 [.af 6 (l.map al.row)] (.str (Lib.join (l.map ee) [44,32])):=by
 have n5:=al.fT l
 have tE:=RU (l.map ee) [44,32] (by rw[List.length_map]; omega) hs
 refine cM bb Tryz.func222 XT (by simp only[b7,I.flat,al.ch,Bool.and_self]) rfl ?_
 unfold Nn Tl
 simp(disch:=omega)only[go_sem,simprocAttr]
 iterate 2 refine rU ?_
 refine av.uM 3 1 9 rfl (by decide) ?_
 simp(disch:=omega)only[go_sem,simprocAttr]
 refine aj ?_
 refine av.c5 (X:=Nat) 0 (fun i=>[(6,.af 6 (l.map al.row)),(7,.int .i64 ((l.map al.row).length:Int)),(8,.int .i64 (i:Int)),(3,.own 0 1 (((l.take i).map ee).map b6))]) (fun _=>[]) (fun i=>[(0,.bX 9 1 (((l.take i).map ee).map b6).length)]) (fun i=>i≤l.length) (fun i=>l.length-i) (Nat.zero_le _) ⟨rfl,rfl,rfl,rfl,trivial⟩ trivial ⟨rfl,trivial⟩ ?_
 intro i ad
 try simp only at ad ⊢
 cases ae:l[i]? with
 |some v=>
  have cB:=(List.getElem?_eq_some_iff.1 ae).1
  have n6:=List.mem_of_getElem? ae
  have ei:((l.take (i+1)).map ee).map b6=((l.take i).map ee).map b6++[b6 (ee v)]:=by
   rw[List.take_add_one,ae]; simp
  have hlen:(((l.take i).map ee).map b6).length=i:=by simp; omega
  have d1:(i:Int)<((l.map al.row).length:Int):=by rw[List.length_map]; omega
  have e:=(vv 1000000).1 v (by have:=al.wQ n6; omega) (by simpa using List.all_eq_true.1 a7 v n6) (Nat.le_trans (aw4 (List.mem_map_of_mem n6)) hs)
  obtain⟨Vc,as5⟩: ∃Vc,Vc=ee v:=⟨_,rfl⟩
  rw[←as5]at e ei
  generalize ((l.take i).map ee).map b6=rows at ei hlen ⊢
  rcases v with ⟨jQ,jU,jS,jV,jT,jR⟩
  simp(disch:=omega)only[go_sem,simprocAttr]at e
  (have ah:=d1;refine bE ?_;clear ah)
  refine D.P (e) ?_
  refine aj ?_
  refine D.hQ ?_
  refine aj ?_
  refine av.oG (i+1) (by omega) ⟨rfl,rfl,by simp only[Int.natCast_add]; rfl,by simp only[ei]; rfl,trivial⟩ trivial ⟨by simp only[ei,List.length_append]; rfl,trivial⟩ rfl (by simp only[lq,ed,fA,fB,kd,I.dW,cb.bX,cR,go_sem]<;>rfl) (by show l.length-(i+1)<l.length-i; omega)
 |none=>
  have cg:=List.getElem?_eq_none_iff.1 ae
  have cA:i=l.length:=by omega
  subst cA
  have d1: ¬(l.length:Int)<((l.map al.row).length:Int):=by rw[List.length_map]; omega
  rw[List.take_length]
  (have ah:=d1;refine bE ?_;clear ah)
  refine D.P (tE) ?_
  refine aj ?_
  exact D.rx
end
section
attribute [local go_sem] iY r4 al.cr al.ch al.ew ai.cr ai.ch ai.ew b6 cR
theorem FL (d:Nat):BT 304 [.int .i64 (d:Int)]:= .inr ⟨rfl,_,rfl⟩
theorem af7 {ps:List bF}{i:Nat}{v:bF}(h:ps[i]? =some v):(ps.take (i+1)).flatten=(ps.take i).flatten++v:=by
 rw[List.take_add_one,h]; simp
theorem OI (ps:List bF) (i:Nat):(ps.take i).flatten.length≤ps.flatten.length:=by
 conv=>rhs; rw[←List.take_append_drop i ps]
 rw[List.flatten_append,List.length_append]
 omega
theorem qn (d:Nat) (br:d≤1000000){A:I}(eh:CX A) (out:bF) (ps:List bF) (aW:ps.length≤1000) (aC:out.length+(gC d ps).length≤1000000000):aY Tryz.prog 216 [.ptr 0 0,.af 1 (ps.map b6)] (tv 304 A out [.int .i64 (d:Int)]) (dR (.cT []) (rj 304 (.ptr 0 0) (out++gC d ps) [.int .i64 (d:Int)]) (k0 (out++gC d ps))):=by
 have jC:out.length+(d+ps.flatten.length+1)≤1000000000:=by
  simp only[gC,List.length_append,List.length_replicate,List.length_cons,List.length_nil]at aC
  omega
 have cA:=Sf (FL d) eh out (List.replicate d 9) (by rw[List.length_replicate]; omega)
 have ad9:=aG8 d br
 have u6:(List.replicate d (9:UInt8)).length=d:=List.length_replicate
 unfold gC
 generalize List.replicate d (9:UInt8)=s0 at*
 rcases eh with rfl|rfl
 all_goals
  have bw:=jC
  refine aY.intro bb Tryz.func216 XO ?_
  unfold Nj Tg
  simp(disch:=omega)only[go_sem,simprocAttr]
  repeat refine D.jd true true ?_
  refine av.iU (anns:=[.str s0]) ?_
  refine dc ?_
  refine D.fL (ad9) ?_
  refine dc ?_
  refine D.F ⟨[0],[0]⟩ (cA) ?_
  refine aj ?_
  refine av.c5 (X:=Nat) 0 (fun i=>[(0,.ptr 0 0),(15,.af 1 (ps.map b6)),(16,.int .i64 ((ps.map b6).length:Int)),(17,.int .i64 (i:Int))]) (fun i=>[(0,304,[.ptr 0 0,.own 0 1 ((out++s0++(ps.take i).flatten).map iY),.int .i64 (d:Int)])]) (fun i=>[(0,.bX 5 1 ((out++s0++(ps.take i).flatten).map iY).length)]) (fun i=>i≤ps.length) (fun i=>ps.length-i) (Nat.zero_le _) ⟨rfl,rfl,rfl,rfl,trivial⟩ ⟨by simp only[List.take_zero,List.flatten_nil,List.append_nil]; rfl,trivial⟩ ⟨by simp only[List.take_zero,List.flatten_nil,List.append_nil]; rfl,trivial⟩ ?_
  intro i ad
  try simp only at ad ⊢
  have tO:=OI ps i
  cases ae:ps[i]? with
  |some v=>
   have cB:=(List.getElem?_eq_some_iff.1 ae).1
   have ei:=af7 ae
   have Py:=OI ps (i+1)
   rw[ei,List.length_append]at Py
   have d1:(i:Int)<((ps.map b6).length:Int):=by rw[List.length_map]; omega
   have jf:(out++s0++(ps.take i).flatten).length+v.length≤1000000000:=by simp only[List.length_append]; omega
   have mE:out++s0++(ps.take (i+1)).flatten=(out++s0++(ps.take i).flatten)++v:=by rw[ei,List.append_assoc,List.append_assoc,List.append_assoc]
   generalize out++s0++(ps.take i).flatten=Y at jf mE ⊢
   (have ah:=d1;refine bE ?_;clear ah)
   refine D.F ⟨[0],[0]⟩ (Sf (FL d) (.inr rfl) Y v jf) ?_
   refine aj ?_
   refine av.dO (i+1) (by omega) ⟨rfl,rfl,rfl,by simp only[Int.natCast_add]; rfl,trivial⟩ (by simp only[mE]; exact⟨rfl,trivial⟩) (by simp only[mE]; exact⟨rfl,trivial⟩) rfl rfl (by show ps.length-(i+1)<ps.length-i; omega)
  |none=>
   have cg:=List.getElem?_eq_none_iff.1 ae
   have cA:i=ps.length:=by omega
   subst cA
   have d1: ¬(ps.length:Int)<((ps.map b6).length:Int):=by rw[List.length_map]; omega
   rw[List.take_length]
   have jf:(out++s0++ps.flatten).length+1≤1000000000:=by simp only[List.length_append]; omega
   rw[show out++(s0++ps.flatten++[10])=(out++s0++ps.flatten)++[10] by simp only[List.append_assoc]]
   generalize out++s0++ps.flatten=Y at jf ⊢
   (have ah:=d1;refine bE ?_;clear ah)
   refine D.F ⟨[0],[0]⟩ (z1 (FL d) (.inr rfl) Y 10 10 rfl jf) ?_
   refine aj ?_
   refine D.r ?_
   exact⟨rfl,⟨rfl,trivial⟩,rfl,trivial⟩
end
section
attribute [local go_sem] iY r4 al.cr al.ch al.ew ai.cr ai.ch ai.ew b6 cR
abbrev yr (out:bF) (d:Nat):fl:=rj 304 (.ptr 0 0) out [.int .i64 (d:Int)]
theorem R7 (d:Nat){l:List ai}{i:Nat}{v:ai}(h:l[i]? =some v):ai.gW d (l.take (i+1))=ai.gW d (l.take i)++ai.lH d [105,102,32] v:=by
 have dV: ∀a b:List ai,ai.gW d (a++b)=ai.gW d a++ai.gW d b:=by
  intro a
  induction a with
  |nil=>intro b; rfl
  |cons x a bB=>intro b; simp only[List.cons_append,ai.gW,bB b,List.append_assoc]
 rw[List.take_add_one,h,dV]
 simp only[Option.toList_some,ai.gW,List.append_nil]
theorem R6 (d:Nat) (l:List ai) (i:Nat):(ai.gW d (l.take i)).length≤(ai.gW d l).length:=by
 induction l generalizing i with
 |nil=>simp
 |cons x l bB=>
  cases i with
  |zero=>simp [ai.gW]
  |succ i=>
   simp only[List.take_succ_cons,ai.gW,List.length_append]
   have:=bB i
   omega
theorem aJ1 (d:Nat){l:List ai}{i:Nat}{v:ai}(h:l[i]? =some v):(ai.gW d (l.take i)).length+(ai.lH d [105,102,32] v).length≤(ai.gW d l).length:=by
 have:=R6 d l (i+1)
 rw[R7 d h,List.length_append]at this
 exact this
def C7 (N:Nat):Prop:=∀(x:ai) (d:Nat) (out:bF),x.bJ≤N→ky x=true→d+x.bJ≤1000000→out.length+(ai.lH d [105,102,32] x).length≤1000000000→aY Tryz.prog 313 [.ptr 0 0,.agg x.row] (tv 304 (.ptr 0 0) out [.int .i64 (d:Int)]) (dR (.cT []) (yr (out++ai.lH d [105,102,32] x) d) (k0 (out++ai.lH d [105,102,32] x)))
def Fy (N:Nat):Prop:=∀(l:List ai) (d:Nat) (out:bF),ai.bz l≤N→k7 l=true→d+1+ai.bz l≤1000000→out.length+(ai.gW (d+1) l).length≤1000000000→aY Tryz.prog 220 [.ptr 0 0,.af 11 (l.map ai.row)] (tv 304 (.ptr 0 0) out [.int .i64 (d:Int)]) (dR (.cT []) (yr (out++ai.gW (d+1) l) d) (k0 (out++ai.gW (d+1) l)))
theorem RZ {N:Nat}(ea:C7 N):Fy N:=by
 intro l d out cW a7 br aC
 have n5:=ai.fT l
 rw[xP]at a7
 refine aY.intro bb Tryz.func220 XR ?_
 unfold Nl Tj
 simp(disch:=omega)only[go_sem,simprocAttr]
 refine aj ?_
 refine av.c5 (X:=Nat) 0 (fun i=>[(0,.ptr 0 0),(13,.af 11 (l.map ai.row)),(14,.int .i64 ((l.map ai.row).length:Int)),(15,.int .i64 (i:Int))]) (fun i=>yr (out++ai.gW (d+1) (l.take i)) (d+1)) (fun i=>k0 (out++ai.gW (d+1) (l.take i))) (fun i=>i≤l.length) (fun i=>l.length-i) (Nat.zero_le _) ⟨rfl,rfl,rfl,rfl,trivial⟩ ⟨by simp only[List.take_zero,ai.gW,List.append_nil,Int.natCast_add]; rfl,trivial⟩ ⟨by simp only[List.take_zero,ai.gW,List.append_nil]; rfl,trivial⟩ ?_
 intro i ad
 try simp only at ad ⊢
 have tO:=R6 (d+1) l i
 cases ae:l[i]? with
 |some v=>
  have cB:=(List.getElem?_eq_some_iff.1 ae).1
  have n6:=List.mem_of_getElem? ae
  have bk7:=ai.wQ n6
  have x3:ky v=true:=by simpa using List.all_eq_true.1 a7 v n6
  have Py:=aJ1 (d+1) ae
  have mE:out++ai.gW (d+1) (l.take (i+1))=(out++ai.gW (d+1) (l.take i))++ai.lH (d+1) [105,102,32] v:=by rw[R7 _ ae,List.append_assoc]
  have d1:(i:Int)<((l.map ai.row).length:Int):=by rw[List.length_map]; omega
  have jf:(out++ai.gW (d+1) (l.take i)).length+(ai.lH (d+1) [105,102,32] v).length≤1000000000:=by simp only[List.length_append]; omega
  generalize out++ai.gW (d+1) (l.take i)=Y at jf mE ⊢
  have e:=ea v (d+1) Y (by omega) x3 (by omega) jf
  generalize ai.lH (d+1) [105,102,32] v=pF at e mE
  rcases v with ⟨fO,aE0,⟨bf1,bf5,bf3,bf6,bf4,bf2⟩,aZ5,aU0,aU1⟩
  simp(disch:=omega)only[go_sem,simprocAttr]at e
  (have ah:=d1;refine bE ?_;clear ah)
  refine D.F ⟨[0],[0]⟩ (e) ?_
  refine aj ?_
  refine av.oG (i+1) (by omega) ⟨rfl,rfl,rfl,by simp only[Int.natCast_add]; rfl,trivial⟩ (by simp only[mE,yr,rj,Int.natCast_add]; exact⟨rfl,trivial⟩) (by simp only[mE]; exact⟨rfl,trivial⟩) rfl (by simp only[lq,ed,fA,fB,kd,I.dW,cb.bX,yr,rj,r4,ai.ch,go_sem]<;>rfl) (by show l.length-(i+1)<l.length-i; omega)
 |none=>
  have cg:=List.getElem?_eq_none_iff.1 ae
  have cA:i=l.length:=by omega
  subst cA
  have d1: ¬(l.length:Int)<((l.map ai.row).length:Int):=by rw[List.length_map]; omega
  rw[List.take_length]
  (have ah:=d1;refine bE ?_;clear ah)
  refine D.r ?_
  refine⟨rfl,⟨?_,trivial⟩,rfl,trivial⟩
  simp only[yr,rj]
  rw[show ((d+1:Nat):Int)-1=(d:Int) by omega]
  rfl
theorem Hz {k:Int}{m:bF}{t:Int}{mV b4:Nat}(h:gp k m t mV b4=true):(k=1∧t=0∧mV=0∧b4=0)∨(k=2∧m=[]∧t=0)∨(k=3∧m=[]∧1≤t∧t≤50∧b4=0):=by
 unfold gp at h
 by_cases U:k=1
 ·simp [U]at h; simp [U,h.2.1,h.2.2.1,h.2.2.2]
 by_cases aa:k=2
 ·simp [aa]at h; simp [aa,h.1,h.2]
 by_cases ay:k=3
 ·simp [ay]at h; simp [ay,h.1,h.2.1,h.2.2.1,h.2.2.2]
 simp [U,aa,ay]at h
theorem Ae {d:Nat}{s:bF}{ps:List bF}(h:s∈ps):s.length≤(gC d ps).length:=by
 have: ∀(l:List bF),s∈l→s.length≤l.flatten.length:=by
  intro l
  induction l with
  |nil=>intro h; cases h
  |cons x l bB=>
   intro h
   rw[List.flatten_cons,List.length_append]
   rcases List.mem_cons.1 h with rfl|h
   ·omega
   ·have:=bB h; omega
 have:=this ps h
 simp only[gC,List.length_append]
 omega
theorem aJ3 {N:Nat}(fa:Fy N):C7 (N+1):=by
 rintro⟨k,ja,x,t,lJ,mZ⟩ d out cW a7 br aC
 simp only[ai.bJ]at cW br
 simp only[ky,Bool.and_eq_true]at a7
 obtain⟨a8,wG,ry,qd⟩:=a7
 have Pj:x.bJ≤1000000:=by omega
 rcases Hz a8 with ⟨rfl,rfl,aa,ay⟩|⟨rfl,rfl,rfl⟩|⟨rfl,rfl,U,aa,ay⟩
 ·have cA:ai.lH d [105,102,32] (.mk 1 ja x 0 lJ mZ)=gC d [ja,[32,61,32],ee x,[59]]:=by simp only[ai.lH,if_true]
  rw[cA]at aC ⊢
  have hs:(ee x).length≤1000000000:=by have:=Ae (d:=d) (s:=ee x) (ps:=[ja,[32,61,32],ee x,[59]]) (by simp); omega
  have e:=(vv 1000000).1 x Pj wG hs
  have el:=qn d (by omega) (.inr rfl) out [ja,[32,61,32],ee x,[59]] (by simp) aC
  generalize gC d [ja,[32,61,32],ee x,[59]]=L at*
  generalize ee x=sY at*
  rcases x with ⟨jQ,jU,jS,jV,jT,jR⟩
  simp(disch:=omega)only[go_sem,simprocAttr]at e
  refine aY.intro bb Tryz.func313 FT ?_
  unfold DG EY
  simp(disch:=omega)only[go_sem,simprocAttr]
  iterate 3 refine rU ?_
  repeat refine D.jd true true ?_
  refine av.iU (anns:=[.str sY]) ?_
  refine dc ?_
  refine D.fL (e) ?_
  refine dc ?_
  refine D.F ⟨[0],[0]⟩ (el) ?_
  refine aj ?_
  refine D.r ?_
  exact⟨rfl,⟨rfl,trivial⟩,rfl,trivial⟩
 ·have bH: ∃F,F=out++ai.lH d [105,102,32] (.mk 2 [] x 0 lJ mZ):=⟨_,rfl⟩
  obtain⟨F,bH⟩:=bH
  have sq:F.length≤1000000000:=by rw[bH,List.length_append]; omega
  rw[←bH]
  rcases x with ⟨jQ,jU,jS,jV,jT,jR⟩
  refine aY.intro bb Tryz.func313 FT ?_
  unfold DG EY
  simp(disch:=omega)only[go_sem,simprocAttr]
  iterate 4 refine rU ?_
  refine aj ?_
  refine av.c5 (X:=bF×al×List ai×List ai×bF) ([105,102,32],.mk jQ jU jS jV jT jR,lJ,mZ,out) (fun y=>[(0,.ptr 0 0),(3,.ptr 1 0),(4,.str y.1)]) (fun y=>[(0,304,[.ptr 0 0,.own 0 1 (y.2.2.2.2.map iY),.int .i64 (d:Int)]),(1,82,(ai.mk 2 [] y.2.1 0 y.2.2.1 y.2.2.2.1).row)]) (fun y=>[(0,.bX 5 1 (y.2.2.2.2.map iY).length)]) (fun y=>jo y.2.1=true∧k7 y.2.2.1=true∧k7 y.2.2.2.1=true∧y.2.1.bJ+ai.bz y.2.2.1+ai.bz y.2.2.2.1≤N∧d+(1+y.2.1.bJ+ai.bz y.2.2.1+ai.bz y.2.2.2.1)≤1000000∧F=y.2.2.2.2++ai.lH d y.1 (.mk 2 [] y.2.1 0 y.2.2.1 y.2.2.2.1)) (fun y=>ai.bz y.2.2.2.1) ⟨wG,ry,qd,by simp only; omega,by simp only; omega,bH⟩ ⟨rfl,rfl,rfl,trivial⟩ ⟨rfl,by simp only[ai.cr,al.cr]; rfl,trivial⟩ ⟨rfl,trivial⟩ ?_
  rintro⟨Hu,x,a,b,O⟩ ⟨wG,ry,qd,cW,br,bH⟩
  simp only at wG ry qd cW br bH ⊢
  have Hh:=congrArg List.length bH
  simp only[ai.lH,show ¬(2:Int)=1 by decide,show ¬(2:Int)=3 by decide,if_false]at bH
  obtain⟨L,dX⟩: ∃L,L=gC d [Hu,ee x,[32,123]]:=⟨_,rfl⟩
  obtain⟨tb,uO⟩: ∃tb,tb=ai.gW (d+1) a:=⟨_,rfl⟩
  obtain⟨T,dF⟩: ∃T,T=(if zL b=true then ai.A8 d b else (if b.isEmpty=true then[] else gC d [[125,32,101,108,115,101,32,123]]++ai.gW (d+1) b)++gC d [[125]]):=⟨_,rfl⟩
  rw[←dX,←uO,←dF]at bH
  have ru:O.length+L.length+tb.length+T.length=F.length:=by rw[bH]; simp only[List.length_append]; omega
  have hs:(ee x).length≤1000000000:=by have:=Ae (d:=d) (s:=ee x) (ps:=[Hu,ee x,[32,123]]) (by simp); rw[←dX]at this; omega
  have e:=(vv 1000000).1 x (by omega) wG hs
  have el:=qn d (by omega) (.inr rfl) O [Hu,ee x,[32,123]] (by simp) (by rw[←dX]; omega)
  rw[←dX]at el
  have iB:=fa a d (O++L) (by omega) ry (by omega) (by rw[←uO,List.length_append]; omega)
  rw[←uO]at iB
  clear dX uO Hh
  generalize ee x=sY at*
  rcases x with ⟨jQ,jU,jS,jV,jT,jR⟩
  simp only[ai.cr,al.cr]
  simp(disch:=omega)only[go_sem,simprocAttr]at e
  refine aj ?_
  refine D.P (e) ?_
  refine aj ?_
  refine D.F ⟨[0],[0]⟩ (el) ?_
  refine aj ?_
  refine D.F ⟨[0],[0]⟩ (iB) ?_
  have il:F=(O++L++tb)++T:=by rw[bH]; simp only[List.append_assoc]
  have O8:(O++L++tb).length+T.length≤1000000000:=by simp only[List.length_append]; omega
  generalize O++L++tb=Y at il O8 ⊢
  clear bH ru el iB e
  by_cases Bo:b=[]
  ·subst Bo
   simp only[zL,List.isEmpty_nil,Bool.false_eq_true,if_false,if_true,List.nil_append]at dF
   have sf:=qn d (by omega) (.inr rfl) Y [[125]] (by simp) (by rw[←dF]; exact O8)
   rw[←dF,←il]at sf
   refine aj ?_
   refine D.F ⟨[0],[0]⟩ (sf) ?_
   refine aj ?_
   refine D.r ?_
   exact⟨rfl,⟨rfl,trivial⟩,rfl,trivial⟩
  cases gq:zL b with
  |true=>
   rw[gq,if_pos rfl]at dF
   match b,gq,qd,cW,br,dF with
   |[.mk s9 vL VV vM lk kY],gq,qd,cW,br,dF=>
   have gq:s9=2:=of_decide_eq_true gq
   subst gq
   simp only[k7,ky,Bool.and_true,Bool.and_eq_true]at qd
   obtain⟨au1,au4,at7,au0⟩:=qd
   rcases Hz au1 with ⟨h,_⟩|⟨_,rfl,rfl⟩|⟨h,_⟩
   ·cases h
   rotate_left
   ·cases h
   simp only[ai.bz,ai.bJ]at cW br
   simp only[ai.A8]at dF
   rw[dF]at il
   have au2:ai.bz kY<ai.bz [ai.mk 2 [] VV 0 lk kY]:=by simp only[ai.bz,ai.bJ]; omega
   rcases VV with ⟨VW,V0,VY,V1,VZ,VX⟩
   refine aj ?_
   refine av.dO ([125,32,101,108,115,101,32,105,102,32],.mk VW V0 VY V1 VZ VX,lk,kY,Y) ⟨au4,at7,au0,by simp only; omega,by simp only; omega,il⟩ ⟨rfl,rfl,rfl,trivial⟩ ⟨rfl,by simp only[ai.cr,al.cr]; rfl,trivial⟩ ⟨rfl,trivial⟩ rfl rfl au2
  |false=>
   have Pv:b.isEmpty=false:=by cases b with|nil=>exact absurd rfl Bo|cons _ _=>rfl
   rw[gq,Pv]at dF
   simp only[Bool.false_eq_true,if_false]at dF
   obtain⟨mi,D3⟩: ∃mi,mi=gC d [[125,32,101,108,115,101,32,123]]:=⟨_,rfl⟩
   obtain⟨CY,D2⟩: ∃CY,CY=ai.gW (d+1) b:=⟨_,rfl⟩
   obtain⟨E,dC⟩: ∃E,E=gC d [[125]]:=⟨_,rfl⟩
   rw[←D3,←D2,←dC]at dF
   have O9:=congrArg List.length dF
   simp only[List.length_append]at O9
   have ar:=qn d (by omega) (.inr rfl) Y [[125,32,101,108,115,101,32,123]] (by simp) (by rw[←D3]; omega)
   rw[←D3]at ar
   have ax:=fa b d (Y++mi) (by omega) qd (by omega) (by rw[←D2,List.length_append]; omega)
   rw[←D2]at ax
   have bU:=qn d (by omega) (.inr rfl) (Y++mi++CY) [[125]] (by simp) (by rw[←dC]; simp only[List.length_append]; omega)
   rw[←dC]at bU
   have O7:F=Y++mi++CY++E:=by rw[il,dF]; simp only[List.append_assoc]
   clear dF D3 D2 dC il O9
   by_cases hlen:b.length=1
   focus
    match b,hlen,gq with
    |[.mk s9 vL ⟨VW,V0,VY,V1,VZ,VX⟩ vM lk kY],_,gq=>
    have gq: ¬s9=2:=of_decide_eq_false gq
    simp(disch:=omega)only[go_sem,simprocAttr]at ax
    (have ah:=gq;refine bE ?_;clear ah)
    refine D.F ⟨[0],[0]⟩ (ar) ?_
    refine aj ?_
    refine D.F ⟨[0],[0]⟩ (ax) ?_
    refine aj ?_
    refine D.F ⟨[0],[0]⟩ (bU) ?_
    refine aj ?_
    refine D.r ?_
    rw[O7]
    exact⟨rfl,⟨rfl,trivial⟩,rfl,trivial⟩
   have nr:0<b.length:=by cases b with|nil=>exact absurd rfl Bo|cons _ _=>simp
   have d5: ¬((b.map ai.row).length:Int)=1:=by rw[List.length_map]; omega
   have d6:(0:Int)<((b.map ai.row).length:Int):=by rw[List.length_map]; omega
   (have ah:=d5;have z2:=d6;refine eM ?_;clear ah z2)
   refine D.F ⟨[0],[0]⟩ (ar) ?_
   refine aj ?_
   refine D.F ⟨[0],[0]⟩ (ax) ?_
   refine aj ?_
   refine D.F ⟨[0],[0]⟩ (bU) ?_
   refine aj ?_
   refine D.r ?_
   rw[O7]
   exact⟨rfl,⟨rfl,trivial⟩,rfl,trivial⟩
 ·have cA:ai.lH d [105,102,32] (.mk 3 [] x t lJ mZ)=gC d [[119,104,105,108,101,32],ee x,[32,116,105,109,101,115,32],Lib.itoa t,[32,123]]++ai.gW (d+1) lJ++gC d [[125]]:=by simp only[ai.lH,show ¬(3:Int)=1 by decide,if_false,if_true]
  rw[cA]at aC ⊢
  obtain⟨L,dX⟩: ∃L,L=gC d [[119,104,105,108,101,32],ee x,[32,116,105,109,101,115,32],Lib.itoa t,[32,123]]:=⟨_,rfl⟩
  obtain⟨tb,uO⟩: ∃tb,tb=ai.gW (d+1) lJ:=⟨_,rfl⟩
  obtain⟨E,dC⟩: ∃E,E=gC d [[125]]:=⟨_,rfl⟩
  rw[←dX,←uO,←dC]at aC ⊢
  simp only[List.length_append]at aC
  have hs:(ee x).length≤1000000000:=by have:=Ae (d:=d) (s:=ee x) (ps:=[[119,104,105,108,101,32],ee x,[32,116,105,109,101,115,32],Lib.itoa t,[32,123]]) (by simp); rw[←dX]at this; omega
  have e:=(vv 1000000).1 x Pj wG hs
  have wo:=Cp t (by omega) (by omega)
  have el:=qn d (by omega) (.inr rfl) out [[119,104,105,108,101,32],ee x,[32,116,105,109,101,115,32],Lib.itoa t,[32,123]] (by simp) (by rw[←dX]; omega)
  rw[←dX]at el
  have iB:=fa lJ d (out++L) (by omega) ry (by omega) (by rw[←uO,List.length_append]; omega)
  rw[←uO]at iB
  have sf:=qn d (by omega) (.inr rfl) (out++L++tb) [[125]] (by simp) (by rw[←dC]; simp only[List.length_append]; omega)
  rw[←dC]at sf
  clear dX uO dC
  generalize ee x=sY at*
  generalize Lib.itoa t=aV7 at*
  rcases x with ⟨jQ,jU,jS,jV,jT,jR⟩
  simp(disch:=omega)only[go_sem,simprocAttr]at e
  refine aY.intro bb Tryz.func313 FT ?_
  unfold DG EY
  simp(disch:=omega)only[go_sem,simprocAttr]
  iterate 4 refine rU ?_
  repeat refine D.jd true true ?_
  refine av.iU (anns:=[.str sY,.str aV7]) ?_
  refine dc ?_
  refine D.fL (e) ?_
  refine dc ?_
  refine D.fL (wo) ?_
  refine dc ?_
  refine D.F ⟨[0],[0]⟩ (el) ?_
  refine aj ?_
  refine D.F ⟨[0],[0]⟩ (iB) ?_
  refine aj ?_
  refine D.F ⟨[0],[0]⟩ (sf) ?_
  refine aj ?_
  refine D.r ?_
  refine⟨rfl,⟨?_,trivial⟩,?_,trivial⟩
  ·simp only[yr,rj,List.append_assoc]; rfl
  ·simp only[k0,List.append_assoc]; rfl
theorem R9: ∀N,C7 N∧Fy N
 |0=>by
  have h:C7 0:=fun x d out h=>by cases x; simp only[ai.bJ]at h; omega
  exact⟨h,RZ h⟩
 |N+1=>by
  have h:=aJ3 (R9 N).2
  exact⟨h,RZ h⟩
end
section
attribute [local go_sem] iY r4 al.cr al.ch al.ew ai.cr ai.ch ai.ew b6 cR eH eS dp of_flat ba.row db gQ
theorem EA {α:Type}(f:α→bF){l:List α}{i:Nat}{v:α}(h:l[i]? =some v):((l.take (i+1)).map f).flatten=((l.take i).map f).flatten++f v:=by
 rw[List.take_add_one,h]; simp
theorem aB6 {α:Type}(f:α→bF) (l:List α) (i:Nat):((l.take i).map f).flatten.length≤(l.map f).flatten.length:=by
 conv=>rhs; rw[←List.take_append_drop i l]
 rw[List.map_append,List.flatten_append,List.length_append]
 omega
theorem Ic {α:Type}(f:α→bF){l:List α}{i:Nat}{v:α}(h:l[i]? =some v):((l.take i).map f).flatten.length+(f v).length≤(l.map f).flatten.length:=by
 have:=aB6 f l (i+1)
 rw[EA f h,List.length_append]at this
 exact this
theorem OT {v:ba}(h:sn v=true): -1000000000≤v.cJ∧v.cJ≤1000000000∧ -1000000000≤v.ad∧v.ad≤1000000000∧(v.fg≠2→ -1000000000≤v.n∧v.n≤1000000000)∧v.s.length≤40:=by
 simp only[sn,Bool.and_eq_true,uA,decide_eq_true_eq]at h
 obtain⟨_,U,aa,_,ay⟩:=h
 by_cases bf:v.fg=1
 ·rw[if_pos bf]at ay
  simp only[Bool.and_eq_true,decide_eq_true_eq]at ay
  exact⟨by omega,by omega,by omega,by omega,fun _=>by omega,by rw[ay.2]; decide⟩
 rw[if_neg bf]at ay
 by_cases bi:v.fg=2
 ·rw[if_pos bi]at ay
  simp only[Bool.and_eq_true,decide_eq_true_eq,vB]at ay
  exact⟨by omega,by omega,by omega,by omega,fun h=>absurd bi h,ay.2.1⟩
 ·rw[if_neg bi]at ay
  cases ay
theorem OR {h:bL}(a7:pr h=true):k7 h.body=true∧h.ps.length≤4:=by
 simp only[pr,Bool.and_eq_true,decide_eq_true_eq]at a7
 rw[xP]
 exact⟨a7.2.2.2.2.1,a7.2.2.1⟩
theorem OS {o:cf}(a7:qA o=true):o.args.all jo=true∧o.dk.all jo=true∧o.dk.length≤1:=by
 simp only[qA,Bool.and_eq_true,decide_eq_true_eq,List.all_append]at a7
 exact⟨a7.2.2.2.2.1.1,a7.2.2.2.2.1.2,a7.2.2.2.1⟩
structure KI (x:b3):Prop where
 af:x.vars.all sn=true
 hs:x.hs.all pr=true
 os:x.os.all qA=true
 aL: ∀h∈x.hs,ai.bz h.body≤900000
 sH: ∀o∈x.os,al.bz o.args≤900000∧al.bz o.dk≤900000
 kn:x.vars.length≤1000000
 l5:x.hs.length≤1000000
 no:x.os.length≤1000000
 len:(qx x).length≤900000000
theorem aN3 (x:b3) (ab:KI x):Pure Tryz.prog 116 [x.cQ] (.str (qx x)):=by
 have bH:=ab.len
 have aq6:=ab.kn
 have aq2:=ab.l5
 have aq5:=ab.no
 obtain⟨F,xU⟩: ∃F,F=qx x:=⟨_,rfl⟩
 rw[←xU]at bH ⊢
 unfold qx at xU
 obtain⟨H0,Hg⟩: ∃H0,H0=gC 0 [[115,101,114,118,105,99,101,32],x.name,[32,112,108,97,121,115,32],x.bM,[32,111,102,32],x.gJ,[32,123]]:=⟨_,rfl⟩
 obtain⟨E,dC⟩: ∃E,E=gC 0 [[125]]:=⟨_,rfl⟩
 rw[←Hg,←dC]at xU
 have sq:=congrArg List.length xU
 simp only[List.length_append]at sq
 have ar:=qn 0 (by decide) (.inl rfl) [] [[115,101,114,118,105,99,101,32],x.name,[32,112,108,97,121,115,32],x.bM,[32,111,102,32],x.gJ,[32,123]] (by simp) (by rw[←Hg,List.length_nil]; omega)
 rw[←Hg,List.nil_append]at ar
 rw[lK]
 refine cM bb Tryz.func116 W7 (by simp only[b7,I.flat,db,dp,of_flat,Bool.and_self]) rfl ?_
 unfold MC Sy
 simp(disch:=omega)only[go_sem,simprocAttr]
 iterate 2 refine rU ?_
 refine av.ou 1 1 1 5 rfl rfl (by decide) ?_
 simp(disch:=omega)only[go_sem,simprocAttr]
 refine aj ?_
 refine D.F ⟨[1],[0]⟩ (ar) ?_
 refine aj ?_
 clear ar
 obtain⟨V,jB⟩: ∃V,V=H0++(x.vars.map o9).flatten:=⟨_,rfl⟩
 have Pa:V.length=H0.length+(x.vars.map o9).flatten.length:=by rw[jB,List.length_append]
 refine av.c5 (X:=Nat) 0 (fun i=>[(1,.ptr 0 0),(3,.ptr 1 0),(27,.af 7 (x.vars.map ba.row)),(28,.int .i64 ((x.vars.map ba.row).length:Int)),(29,.int .i64 (i:Int))]) (fun i=>[(0,48,x.cells),(1,304,[.ptr 1 0,.own 0 1 ((H0++((x.vars.take i).map o9).flatten).map iY),.int .i64 1])]) (fun i=>[(0,.bX 5 1 ((H0++((x.vars.take i).map o9).flatten).map iY).length)]) (fun i=>i≤x.vars.length) (fun i=>x.vars.length-i) (Nat.zero_le _) ⟨rfl,rfl,rfl,rfl,rfl,trivial⟩ ⟨rfl,by simp only[List.take_zero,List.map_nil,List.flatten_nil,List.append_nil]; rfl,trivial⟩ ⟨by simp only[List.take_zero,List.map_nil,List.flatten_nil,List.append_nil]; rfl,trivial⟩ ?_
 intro i ad
 try simp only at ad ⊢
 cases ae:x.vars[i]? with
 |some v=>
  have cB:=(List.getElem?_eq_some_iff.1 ae).1
  have n6:=List.mem_of_getElem? ae
  have x3:sn v=true:=by simpa using List.all_eq_true.1 ab.af v n6
  have ei:=EA o9 ae
  have hle:=Ic o9 ae
  have d1:(i:Int)<((x.vars.map ba.row).length:Int):=by rw[List.length_map]; omega
  obtain⟨Y,jf⟩: ∃Y,Y=H0++((x.vars.take i).map o9).flatten:=⟨_,rfl⟩
  have mE:H0++((x.vars.take (i+1)).map o9).flatten=Y++o9 v:=by rw[ei,jf,List.append_assoc]
  have zx:Y.length+(o9 v).length≤900000000:=by rw[jf,List.length_append]; omega
  obtain⟨g1,g2,g3,g4,g5,g6⟩:=OT x3
  obtain⟨s1,qF⟩: ∃s1,s1=Lib.itoa v.cJ:=⟨_,rfl⟩
  obtain⟨s2,n7⟩: ∃s2,s2=Lib.itoa v.ad:=⟨_,rfl⟩
  obtain⟨vz,HU⟩: ∃vz,vz=zI v.fg v.n v.s:=⟨_,rfl⟩
  have jt:=Cp v.cJ g1 g2
  have rI:=Cp v.ad g3 g4
  have kT:=aK7 v.fg v.n v.s g5 (by omega)
  have zG:o9 v=gC 1 [[118,97,114,32],v.name,[58,32],if v.ig=2 then[116,101,120,116,32] else[105,110,116,32],s1,[32,46,46,32],s2,[32,61,32],vz,[59]]:=by rw[qF,n7,HU]; rfl
  rw[←qF]at jt
  rw[←n7]at rI
  rw[←HU]at kT
  rw[←jf]
  generalize o9 v=L at*
  clear ei hle jf qF n7 HU
  by_cases aa:v.ig=2
  focus
   rw[if_pos aa]at zG
   have e:=qn 1 (by decide) (.inr rfl) Y [[118,97,114,32],v.name,[58,32],[116,101,120,116,32],s1,[32,46,46,32],s2,[32,61,32],vz,[59]] (by simp) (by rw[←zG]; omega)
   rw[←zG]at e
   (have ah:=d1;have z2:=aa;refine oi ?_;refine oi ?_;refine oi ?_;refine oi ?_;refine oi ?_;clear ah z2)
   (have ah:=d1;have z2:=aa;refine C2 ?_;clear ah z2)
  rotate_left
  focus
   rw[if_neg aa]at zG
   have e:=qn 1 (by decide) (.inr rfl) Y [[118,97,114,32],v.name,[58,32],[105,110,116,32],s1,[32,46,46,32],s2,[32,61,32],vz,[59]] (by simp) (by rw[←zG]; omega)
   rw[←zG]at e
   (have ah:=d1;have z2:=aa;refine oi ?_;refine oi ?_;refine oi ?_;refine oi ?_;clear ah z2)
   (have ah:=d1;have z2:=aa;refine C2 ?_;clear ah z2)
  all_goals
   refine av.iU (anns:=[.str s1,.str s2,.str vz]) ?_
   (have ah:=aa;refine Ay ?_;clear ah)
   refine D.fL (jt) ?_
   refine dc ?_
   refine D.fL (rI) ?_
   refine dc ?_
   refine D.fL (kT) ?_
   refine dc ?_
   refine D.F ⟨[1],[0]⟩ (e) ?_
   refine aj ?_
   refine av.oG (i+1) (by omega) ⟨rfl,rfl,rfl,rfl,by simp only[Int.natCast_add]; rfl,trivial⟩ (by simp only[mE]; exact⟨rfl,rfl,trivial⟩) (by simp only[mE]; exact⟨rfl,trivial⟩) rfl (by simp only[lq,ed,fA,fB,kd,I.dW,cb.bX,gQ,r4,db,dp,of_flat,go_sem]<;>rfl) (by show x.vars.length-(i+1)<x.vars.length-i; omega)
 |none=>
 have cg:=List.getElem?_eq_none_iff.1 ae
 have cA:i=x.vars.length:=by omega
 subst cA
 have d1: ¬(x.vars.length:Int)<((x.vars.map ba.row).length:Int):=by rw[List.length_map]; omega
 rw[List.take_length,←jB]
 rw[←jB]at xU
 clear ad ae cg
 obtain⟨q8,Hk⟩: ∃q8,q8=V++(x.hs.map mA).flatten:=⟨_,rfl⟩
 have bi7:q8.length=V.length+(x.hs.map mA).flatten.length:=by rw[Hk,List.length_append]
 (have ah:=d1;refine bE ?_;clear ah)
 refine av.c5 (X:=Nat) 0 (fun i=>[(1,.ptr 0 0),(3,.ptr 1 0),(56,.af 4 (x.hs.map bL.row)),(57,.int .i64 ((x.hs.map bL.row).length:Int)),(58,.int .i64 (i:Int))]) (fun i=>[(0,48,x.cells),(1,304,[.ptr 1 0,.own 0 1 ((V++((x.hs.take i).map mA).flatten).map iY),.int .i64 1])]) (fun i=>[(0,.bX 5 1 ((V++((x.hs.take i).map mA).flatten).map iY).length)]) (fun i=>i≤x.hs.length) (fun i=>x.hs.length-i) (Nat.zero_le _) ⟨rfl,rfl,rfl,rfl,rfl,trivial⟩ ⟨rfl,by simp only[List.take_zero,List.map_nil,List.flatten_nil,List.append_nil]; rfl,trivial⟩ ⟨by simp only[List.take_zero,List.map_nil,List.flatten_nil,List.append_nil]; rfl,trivial⟩ ?_
 intro i ad
 try simp only at ad ⊢
 cases ae:x.hs[i]? with
 |some v=>
  have cB:=(List.getElem?_eq_some_iff.1 ae).1
  have n6:=List.mem_of_getElem? ae
  have x3:pr v=true:=by simpa using List.all_eq_true.1 ab.hs v n6
  have zA:=ab.aL v n6
  have ei:=EA mA ae
  have hle:=Ic mA ae
  have d1:(i:Int)<((x.hs.map bL.row).length:Int):=by rw[List.length_map]; omega
  obtain⟨Y,jf⟩: ∃Y,Y=V++((x.hs.take i).map mA).flatten:=⟨_,rfl⟩
  have mE:V++((x.hs.take (i+1)).map mA).flatten=Y++mA v:=by rw[ei,jf,List.append_assoc]
  have zx:Y.length+(mA v).length≤900000000:=by rw[jf,List.length_append]; omega
  obtain⟨g1,g2⟩:=OR x3
  obtain⟨s1,qF⟩: ∃s1,s1=Lib.join v.ps [44,32]:=⟨_,rfl⟩
  obtain⟨L,dX⟩: ∃L,L=gC 1 [[111,110,32],v.c7,[40],s1,[41,32,102,114,111,109,32],v.peer,[32,123]]:=⟨_,rfl⟩
  obtain⟨B,fa⟩: ∃B,B=ai.gW (1+1) v.body:=⟨_,rfl⟩
  obtain⟨Z,p8⟩: ∃Z,Z=gC 1 [[125]]:=⟨_,rfl⟩
  have Bz:mA v=L++B++Z:=by rw[dX,fa,p8,qF]; rfl
  rw[Bz]at zx mE
  simp only[List.length_append]at zx
  have as1:s1.length≤L.length:=by rw[dX]; exact Ae (by simp)
  have jt:=RU v.ps [44,32] (by omega) (by rw[←qF]; omega)
  have e:=qn 1 (by decide) (.inr rfl) Y [[111,110,32],v.c7,[40],s1,[41,32,102,114,111,109,32],v.peer,[32,123]] (by simp) (by rw[←dX]; omega)
  have iB:=(R9 1000000).2 v.body 1 (Y++L) (by omega) g1 (by omega) (by rw[←fa,List.length_append]; omega)
  have sf:=qn 1 (by decide) (.inr rfl) (Y++L++B) [[125]] (by simp) (by rw[←p8,List.length_append,List.length_append]; omega)
  rw[←qF]at jt
  rw[←dX]at e
  rw[←fa]at iB
  rw[←p8]at sf
  have PT:V++((x.hs.take (i+1)).map mA).flatten=Y++L++B++Z:=by rw[mE]; simp only[List.append_assoc]
  rw[←jf]
  clear ei mE hle jf qF dX fa p8 Bz
  (have ah:=d1;refine Ku ?_;refine Ku ?_;clear ah)
  (have ah:=d1;refine Kt ?_;clear ah)
  refine av.iU (anns:=[.str s1]) ?_
  refine dc ?_
  refine D.fL (jt) ?_
  refine dc ?_
  refine D.F ⟨[1],[0]⟩ (e) ?_
  refine aj ?_
  refine D.F ⟨[1],[0]⟩ (iB) ?_
  refine aj ?_
  refine D.F ⟨[1],[0]⟩ (sf) ?_
  refine aj ?_
  refine av.oG (i+1) (by omega) ⟨rfl,rfl,rfl,rfl,by simp only[Int.natCast_add]; rfl,trivial⟩ (by simp only[PT]; exact⟨rfl,rfl,trivial⟩) (by simp only[PT]; exact⟨rfl,trivial⟩) rfl (by simp only[lq,ed,fA,fB,kd,I.dW,cb.bX,gQ,r4,db,dp,of_flat,go_sem]<;>rfl) (by show x.hs.length-(i+1)<x.hs.length-i; omega)
 |none=>
 have cg:=List.getElem?_eq_none_iff.1 ae
 have cA:i=x.hs.length:=by omega
 subst cA
 have d1: ¬(x.hs.length:Int)<((x.hs.map bL.row).length:Int):=by rw[List.length_map]; omega
 rw[List.take_length,←Hk]
 rw[←Hk]at xU
 clear ad ae cg
 (have ah:=d1;refine bE ?_;clear ah)
 refine av.c5 (X:=Nat) 0 (fun i=>[(1,.ptr 0 0),(3,.ptr 1 0),(81,.af 4 (x.os.map cf.row)),(82,.int .i64 ((x.os.map cf.row).length:Int)),(83,.int .i64 (i:Int))]) (fun i=>[(1,304,[.ptr 1 0,.own 0 1 ((q8++((x.os.take i).map nC).flatten).map iY),.int .i64 1])]) (fun i=>[(0,.bX 5 1 ((q8++((x.os.take i).map nC).flatten).map iY).length)]) (fun i=>i≤x.os.length) (fun i=>x.os.length-i) (Nat.zero_le _) ⟨rfl,rfl,rfl,rfl,rfl,trivial⟩ ⟨by simp only[List.take_zero,List.map_nil,List.flatten_nil,List.append_nil]; rfl,trivial⟩ ⟨by simp only[List.take_zero,List.map_nil,List.flatten_nil,List.append_nil]; rfl,trivial⟩ ?_
 intro i ad
 try simp only at ad ⊢
 cases ae:x.os[i]? with
 |some v=>
  have cB:=(List.getElem?_eq_some_iff.1 ae).1
  have n6:=List.mem_of_getElem? ae
  have x3:qA v=true:=by simpa using List.all_eq_true.1 ab.os v n6
  obtain⟨zA,Ph⟩:=ab.sH v n6
  have ei:=EA nC ae
  have hle:=Ic nC ae
  have d1:(i:Int)<((x.os.map cf.row).length:Int):=by rw[List.length_map]; omega
  obtain⟨Y,jf⟩: ∃Y,Y=q8++((x.os.take i).map nC).flatten:=⟨_,rfl⟩
  have mE:q8++((x.os.take (i+1)).map nC).flatten=Y++nC v:=by rw[ei,jf,List.append_assoc]
  have zx:Y.length+(nC v).length≤900000000:=by rw[jf,List.length_append]; omega
  obtain⟨g1,g2,g3⟩:=OS x3
  obtain⟨s1,qF⟩: ∃s1,s1=Lib.join (v.args.map ee) [44,32]:=⟨_,rfl⟩
  obtain⟨s2,n7⟩: ∃s2,s2=yM v.dk:=⟨_,rfl⟩
  obtain⟨L,dX⟩: ∃L,L=gC 1 [[111,102,102,101,114,32],v.c7,[40],s1,[41,32,116,111,32],v.peer,s2,[59]]:=⟨_,rfl⟩
  have Bz:nC v=L:=by rw[dX,qF,n7]; rfl
  rw[Bz]at zx mE
  have as1:s1.length≤L.length:=by rw[dX]; exact Ae (by simp)
  have bk4:s2.length≤L.length:=by rw[dX]; exact Ae (by simp)
  have jt:=aK8 v.args (by omega) g1 (by rw[←qF]; omega)
  have e:=qn 1 (by decide) (.inr rfl) Y [[111,102,102,101,114,32],v.c7,[40],s1,[41,32,116,111,32],v.peer,s2,[59]] (by simp) (by rw[←dX]; omega)
  rw[←qF]at jt
  rw[←dX]at e
  rw[←jf]
  clear ei hle jf qF dX Bz
  cases hw:v.dk with
  |nil=>
   rw[hw]at n7
   simp only[yM]at n7
   (have ah:=d1;have z2:=hw;refine oi ?_;refine oi ?_;refine oi ?_;refine oi ?_;clear ah z2)
   (have ah:=d1;have z2:=hw;refine C2 ?_;clear ah z2)
   refine av.iU (anns:=[.str s1]) ?_
   (have ah:=hw;refine Ay ?_;clear ah)
   refine D.fL (jt) ?_
   refine dc ?_
   subst n7
   refine D.F ⟨[1],[0]⟩ (e) ?_
   refine aj ?_
   refine av.oG (i+1) (by omega) ⟨rfl,rfl,rfl,rfl,by simp only[Int.natCast_add]; rfl,trivial⟩ (by simp only[mE]; exact⟨rfl,trivial⟩) (by simp only[mE]; exact⟨rfl,trivial⟩) rfl (by simp only[lq,ed,fA,fB,kd,I.dW,cb.bX,gQ,r4,db,dp,of_flat,go_sem]<;>rfl) (by show x.os.length-(i+1)<x.os.length-i; omega)
  |cons w ws=>
   rw[hw]at n7 g2 Ph
   simp only[yM]at n7
   have at3:ws=[]:=by
    rw[hw]at g3
    simp only[List.length_cons]at g3
    exact List.length_eq_zero_iff.1 (by omega)
   subst at3
   have at2:jo w=true:=by simpa using g2
   simp only[al.bz]at Ph
   have PS:=congrArg List.length n7
   simp only[List.length_append]at PS
   have GV:=(vv 1000000).1 w (by omega) at2 (by omega)
   generalize ee w=ij at n7 PS GV
   rcases w with ⟨jQ,jU,jS,jV,jT,jR⟩
   simp(disch:=omega)only[go_sem,simprocAttr]at GV
   (have ah:=d1;have z2:=hw;refine oi ?_;refine oi ?_;refine oi ?_;refine oi ?_;clear ah z2)
   (have ah:=d1;have z2:=hw;refine C2 ?_;clear ah z2)
   refine av.dN ?_
   (have ah:=hw;refine Ay ?_;clear ah)
   refine D.P (GV) ?_
   refine D.j0 ?_
   refine dc ?_
   (have ah:=hw;refine Kt ?_;clear ah)
   refine av.iU (anns:=[.str s1]) ?_
   (have ah:=hw;refine Ay ?_;clear ah)
   refine D.fL (jt) ?_
   refine dc ?_
   subst n7
   refine D.F ⟨[1],[0]⟩ (e) ?_
   refine aj ?_
   refine av.oG (i+1) (by omega) ⟨rfl,rfl,rfl,rfl,by simp only[Int.natCast_add]; rfl,trivial⟩ (by simp only[mE]; exact⟨rfl,trivial⟩) (by simp only[mE]; exact⟨rfl,trivial⟩) rfl (by simp only[lq,ed,fA,fB,kd,I.dW,cb.bX,gQ,r4,db,dp,of_flat,go_sem]<;>rfl) (by show x.os.length-(i+1)<x.os.length-i; omega)
 |none=>
 have cg:=List.getElem?_eq_none_iff.1 ae
 have cA:i=x.os.length:=by omega
 subst cA
 have d1: ¬(x.os.length:Int)<((x.os.map cf.row).length:Int):=by rw[List.length_map]; omega
 rw[List.take_length]
 have jf:(q8++(x.os.map nC).flatten).length+E.length≤900000000:=by rw[List.length_append]; omega
 rw[xU]
 generalize q8++(x.os.map nC).flatten=Y at jf ⊢
 have sf:=qn 0 (by decide) (.inr rfl) Y [[125]] (by simp) (by rw[←dC]; omega)
 rw[←dC]at sf
 have e3:Y++E≠[]:=by rw[dC]; simp [gC]
 (have ah:=d1;refine bE ?_;clear ah)
 refine D.F ⟨[1],[0]⟩ (sf) ?_
 refine aj ?_
 refine D.F ⟨[1],[0]⟩ (t129 (T:=304) (A:= .ptr 0 0) (cs:=[.int .i64 0]) trivial (Y++E) e3) ?_
 refine aj ?_
 exact D.rx
end
end Go.aO.T.N
namespace Go.aO
open Go Go.aO.T.N
theorem Ct: ∀s:bF,(mX s).length≤2*s.length
 |[]=>Nat.le_refl _
 |c::s=>by
  have:=Ct s
  simp only[mX,List.length_append,List.length_cons]
  split<;>simp<;>omega
theorem Sp (s:bF):(Cs s).length≤2*s.length+2:=by
 have:=Ct s
 simp only[Cs,List.length_append,List.length_cons,List.length_nil]
 omega
theorem ya {n:Int}(aU: -1000000000≤n) (U:n≤1000000000):(Lib.itoa n).length≤21:=Lib.itoa_length_le n (by omega) (by omega)
theorem vJ {s:bF}(h:io s=true):s.length≤16:=by
 cases s with
 |nil=>simp
 |cons c s=>
  simp only[io,BO,Bool.and_eq_true,decide_eq_true_eq]at h
  exact h.1.1
theorem IB (x:al) (s:bF) (k:Int):(nF x s k).length≤s.length+2:=by
 unfold nF
 split
 ·simp
 ·omega
theorem aJ0 {s:bF}(h:lI s≠0):s.length≤2:=by
 by_cases aa:s.length≤2
 ·exact aa
 ·exfalso
  apply h
  unfold lI
  repeat rw[if_neg (by intro e; subst e; simp at aa)]
theorem CE: ∀(N:Nat) (x:al),x.bJ≤N→jo x=true→(ee x).length≤90*x.bJ
 |0,x,h,_=>by cases x; simp only[al.bJ]at h; omega
 |N+1,⟨k,o,m,t,n,l⟩,cW,a7=>by
  simp only[al.bJ]at cW ⊢
  simp only[jo,Bool.and_eq_true]at a7
  obtain⟨a8,jL⟩:=a7
  have rz:=a8
  simp only[ee,Jv]
  unfold G1
  rcases Pu a8 with ⟨rfl,aU,U,aa⟩|⟨rfl,aU,U⟩|⟨rfl,aU⟩|⟨rfl,aU⟩|⟨rfl,aU⟩|⟨rfl,aU⟩
  ·have:=ya (n:=n) (by omega) (by omega)
   simp only[if_true]
   omega
  ·have:=Sp t
   simp only[show ¬(2:Int)=1 by decide,if_false,if_true]
   omega
  ·have:m.length≤16:=by
    simp [im]at rz
    exact vJ rz.1
   simp only[show ¬(3:Int)=1 by decide,show ¬(3:Int)=2 by decide,if_false,if_true]
   omega
  ·match l,aU with
   |[x],_=>
   simp only[lx,Bool.and_true]at jL
   simp only[al.bz]at cW ⊢
   have:=CE N x (by omega) jL
   simp only[show ¬(4:Int)=1 by decide,show ¬(4:Int)=2 by decide,show ¬(4:Int)=3 by decide,if_false,if_true,List.map_cons,Qh,List.length_append,List.length_cons,List.length_nil]
   omega
  ·match l,aU with
   |[x],_=>
   simp only[lx,Bool.and_true]at jL
   simp only[al.bz]at cW ⊢
   have U:=CE N x (by omega) jL
   have aa:=IB x (ee x) 7
   have ay:o.length=1:=by
    simp [im]at rz
    rcases rz.1 with rfl|rfl<;>rfl
   simp only[show ¬(5:Int)=1 by decide,show ¬(5:Int)=2 by decide,show ¬(5:Int)=3 by decide,show ¬(5:Int)=4 by decide,if_false,if_true,List.map_cons,VI,List.length_append]
   omega
  ·match l,aU with
   |[x,y],_=>
   simp only[lx,Bool.and_true,Bool.and_eq_true]at jL
   simp only[al.bz]at cW ⊢
   have U:=CE N x (by omega) jL.1
   have so:=CE N y (by omega) jL.2
   have aa:=IB x (ee x) (lI o)
   have O2:=IB y (ee y) (lI o+1)
   have ay:o.length≤2:=by
    simp [im]at rz
    exact aJ0 rz.1
   simp only[show ¬(6:Int)=1 by decide,show ¬(6:Int)=2 by decide,show ¬(6:Int)=3 by decide,show ¬(6:Int)=4 by decide,show ¬(6:Int)=5 by decide,if_false,List.map_cons,K6,List.length_append,List.length_cons,List.length_nil]
   omega
theorem tX (d:Nat) (ps:List bF):(gC d ps).length=d+ps.flatten.length+1:=by simp only[gC,List.length_append,List.length_replicate,List.length_cons,List.length_nil]
theorem Ju {x:al}(h:jo x=true):(ee x).length≤90*x.bJ:=CE _ x (Nat.le_refl _) h
theorem IL: ∀(N:Nat),(∀(x:ai) (d:Nat) (br:bF),x.bJ≤N→ky x=true→d+oq x≤20→br.length≤10→(ai.lH d br x).length≤250*x.bJ)∧(∀(l:List ai) (d:Nat),ai.bz l≤N→k7 l=true→d+kr l≤20→(ai.gW d l).length≤250*ai.bz l)
 |0=>⟨fun x d br h=>by cases x; simp only[ai.bJ]at h; omega,fun l d h a7 br=>by
  cases l with
  |nil=>simp [ai.gW]
  |cons x l=>cases x; simp only[ai.bz,ai.bJ]at h; omega⟩
 |N+1=>by
  obtain⟨i1,i2⟩:=IL N
  have key: ∀(x:ai) (d:Nat) (br:bF),x.bJ≤N+1→ky x=true→d+oq x≤20→br.length≤10→(ai.lH d br x).length≤250*x.bJ:=by
   rintro⟨k,m,x,t,a,b⟩ d br cW a7 pu an6
   simp only[ai.bJ]at cW ⊢
   simp only[ky,Bool.and_eq_true]at a7
   obtain⟨a8,wG,ry,qd⟩:=a7
   simp only[oq]at pu
   have ab:=Ju wG
   have Pt:1≤oR x:=by cases x; simp only[oR]; omega
   rcases Hz a8 with ⟨rfl,rfl,aa,ay⟩|⟨rfl,rfl,rfl⟩|⟨rfl,rfl,U,aa,ay⟩
   ·have hm:m.length≤16:=by
     simp [gp]at a8
     exact vJ a8.1
    simp only[ai.lH,if_true,tX,List.flatten_cons,List.flatten_nil,List.length_append,List.length_cons,List.length_nil]
    omega
   ·have aL:=i2 a (d+1) (by omega) ry (by omega)
    simp only[ai.lH,show ¬(2:Int)=1 by decide,show ¬(2:Int)=3 by decide,if_false,tX,List.flatten_cons,List.flatten_nil,List.length_append,List.length_cons,List.length_nil]
    have hb:(if zL b=true then ai.A8 d b else (if b.isEmpty=true then[] else gC d [[125,32,101,108,115,101,32,123]]++ai.gW (d+1) b)++gC d [[125]]).length≤250*ai.bz b+60:=by
     cases gq:zL b with
     |true=>
      match b,gq,qd,cW,pu with
      |[y],gq,qd,cW,pu=>
      simp only[k7,Bool.and_true]at qd
      simp only[ai.bz]at cW ⊢
      simp only[kr]at pu
      simp only[if_true,ai.A8]
      have:=i1 y d [125,32,101,108,115,101,32,105,102,32] (by omega) qd (by omega) (by decide)
      omega
     |false=>
      simp only[Bool.false_eq_true,if_false]
      cases Pv:b.isEmpty with
      |true=>
       simp only[if_true,List.nil_append,tX,List.flatten_cons,List.flatten_nil,List.length_append,List.length_cons,List.length_nil]
       omega
      |false=>
       have gP:=i2 b (d+1) (by omega) qd (by omega)
       simp only[Bool.false_eq_true,if_false,tX,List.flatten_cons,List.flatten_nil,List.length_append,List.length_cons,List.length_nil]
       omega
    omega
   ·have aL:=i2 a (d+1) (by omega) ry (by omega)
    have ad:=ya (n:=t) (by omega) (by omega)
    simp only[ai.lH,show ¬(3:Int)=1 by decide,if_false,if_true,tX,List.flatten_cons,List.flatten_nil,List.length_append,List.length_cons,List.length_nil]
    omega
  have ay8: ∀(l:List ai) (d:Nat),ai.bz l≤N+1→k7 l=true→d+kr l≤20→(ai.gW d l).length≤250*ai.bz l:=by
   intro l
   induction l with
   |nil=>intro d _ _ _; simp [ai.gW]
   |cons x l bB=>
    intro d cW a7 pu
    simp only[ai.bz]at cW ⊢
    simp only[k7,Bool.and_eq_true]at a7
    simp only[kr]at pu
    have U:=key x d [105,102,32] (by omega) a7.1 (by omega) (by decide)
    have aa:=bB d (by omega) a7.2 (by omega)
    simp only[ai.gW,List.length_append]
    omega
  exact⟨key,ay8⟩
theorem DW {α:Type}(f:α→bF) (B:Nat): ∀l:List α,(∀x∈l,(f x).length≤B)→((l.map f).flatten).length≤B*l.length
 |[],_=>by simp
 |x::l,h=>by
  have U:=h x (by simp)
  have aa:=DW f B l fun y aV=>h y (List.mem_cons_of_mem _ aV)
  simp only[List.map_cons,List.flatten_cons,List.length_append,List.length_cons,Nat.mul_add]
  omega
theorem P8 (sep:bF) (B:Nat) (l:List bF) (h: ∀x∈l,x.length≤B):(Lib.join l sep).length≤(B+sep.length)*l.length:=by
 cases l with
 |nil=>simp [Lib.join_nil]
 |cons x r=>
  rw[Lib.join_length]
  have: ∀l:List bF,(∀x∈l,x.length≤B)→Lib.lens l≤B*l.length:=by
   intro l
   induction l with
   |nil=>intro _; simp [Lib.lens]
   |cons y l bB=>
    intro h
    have U:=h y (by simp)
    have aa:=bB fun z aG=>h z (List.mem_cons_of_mem _ aG)
    simp only[Lib.lens,List.length_cons,Nat.mul_add,List.map_cons,List.sum_cons]at aa ⊢
    omega
  have U:=this (x::r) h
  have aa:sep.length*r.length≤sep.length*(x::r).length:=Nat.mul_le_mul_left _ (by simp)
  rw[Nat.add_mul]
  omega
theorem ab0 {l:List ai}{k:Nat}(h:l.all (fun x=>decide (oq x≤k))=true):kr l≤k:=by
 induction l with
 |nil=>simp [kr]
 |cons x l bB=>
  simp only[List.all_cons,Bool.and_eq_true,decide_eq_true_eq]at h
  simp only[kr]
  have:=bB h.2
  omega
theorem RY {s:bF}(h:rJ s=true):s.length≤50:=by
 simp only[rJ,Bool.and_eq_true,decide_eq_true_eq]at h
 exact h.1
theorem ak2 {h:bL}(a7:pr h=true) (aL:ai.bz h.body≤10000):(mA h).length≤3000000:=by
 obtain⟨g1,g2⟩:=OR a7
 simp only[pr,Bool.and_eq_true]at a7
 obtain⟨bf,bi,_,cz,_,eu⟩:=a7
 have U:=RY bf
 have aa:=vJ bi
 have ay:=P8 [44,32] 16 h.ps fun x ab=>vJ (List.all_eq_true.1 cz x ab)
 have xT:(16+([44,32]:bF).length)*h.ps.length≤18*4:=Nat.mul_le_mul_left 18 g2
 have bl:=(IL 10000).2 h.body 2 aL g1 (by have:=ab0 eu; omega)
 simp only[mA,tX,List.flatten_cons,List.flatten_nil,List.length_append,List.length_cons,List.length_nil]at*
 omega
theorem aE4 {o:cf}(a7:qA o=true) (aL:al.bz o.args≤10000∧al.bz o.dk≤10000):(nC o).length≤5000000:=by
 obtain⟨g1,g2,g3⟩:=OS a7
 simp only[qA,Bool.and_eq_true,decide_eq_true_eq]at a7
 obtain⟨bf,bi,cz,_⟩:=a7
 have U:=RY bf
 have aa:=vJ bi
 have ay:=P8 [44,32] 900000 (o.args.map ee) fun x ab=>by
  obtain⟨y,aV,rfl⟩:=List.mem_map.1 ab
  have:=Ju (List.all_eq_true.1 g1 y aV)
  have:=al.wQ aV
  omega
 have xT:(900000+([44,32]:bF).length)*(o.args.map ee).length≤900002*4:=Nat.mul_le_mul_left 900002 (by rw[List.length_map]; exact cz)
 have bl:(yM o.dk).length≤900010:=by
  cases hw:o.dk with
  |nil=>simp [yM]
  |cons w ws=>
   rw[hw]at g2 aL
   simp only[List.all_cons,Bool.and_eq_true]at g2
   simp only[al.bz]at aL
   have:=Ju g2.1
   simp only[yM,List.length_append,List.length_cons,List.length_nil]
   omega
 simp only[nC,tX,List.flatten_cons,List.flatten_nil,List.length_append,List.length_cons,List.length_nil]at*
 omega
theorem ba6 {v:ba}(a7:sn v=true):(o9 v).length≤1000:=by
 obtain⟨g1,g2,g3,g4,g5,g6⟩:=OT a7
 have U:=ya g1 g2
 have aa:=ya g3 g4
 have ay:v.name.length≤16:=by
  simp only[sn,Bool.and_eq_true]at a7
  exact vJ a7.1
 have bl:(zI v.fg v.n v.s).length≤100:=by
  unfold zI
  split
  ·have:=Sp v.s; omega
  ·have:=ya (g5 ‹_›).1 (g5 ‹_›).2; omega
 have bW:(if v.ig=2 then ([116,101,120,116,32]:bF) else[105,110,116,32]).length≤5:=by split<;>simp
 simp only[o9,tX,List.flatten_cons,List.flatten_nil,List.length_append,List.length_cons,List.length_nil]at*
 omega
def vq (x:b3):Bool:=io x.name&&(io x.bM&&(io x.gJ&&(decide (x.vars.length≤12)&&(decide (x.hs.length≤40)&&decide (x.os.length≤40)))))
def rX (x:b3):Bool:=x.vars.all sn&&(x.hs.all pr&&x.os.all qA)
def n3 (x:b3):Bool:=vq x&&(rX x&&decide ((qx x).length≤8000))
structure jw (x:b3):Prop where
 aL: ∀h∈x.hs,ai.bz h.body≤10000
 hp: ∀h∈x.hs,h.ps.length≤1000000
 sH: ∀o∈x.os,al.bz o.args≤10000∧al.bz o.dk≤10000
 kn:x.vars.length≤1000000
 l5:x.hs.length≤1000000
 no:x.os.length≤1000000
theorem aY2 {x:b3}(hb:jw x) (U:vq x=true) (aa:rX x=true):KI x:=by
 simp only[vq,Bool.and_eq_true,decide_eq_true_eq]at U
 simp only[rX,Bool.and_eq_true]at aa
 obtain⟨bf,bi,cz,eu,gr,mS⟩:=U
 obtain⟨g1,g2,g3⟩:=aa
 refine⟨g1,g2,g3,fun h hm=>by have:=hb.aL h hm; omega,fun o hm=>by have:=hb.sH o hm; omega,hb.kn,hb.l5,hb.no,?_⟩
 have ar:=vJ bf
 have ax:=vJ bi
 have bU:=vJ cz
 have dl:=DW o9 1000 x.vars fun v ae=>ba6 (List.all_eq_true.1 g1 v ae)
 have gn:=DW mA 3000000 x.hs fun v ae=>ak2 (List.all_eq_true.1 g2 v ae) (hb.aL v ae)
 have mw:=DW nC 5000000 x.os fun v ae=>aE4 (List.all_eq_true.1 g3 v ae) (hb.sH v ae)
 simp only[qx,tX,List.flatten_cons,List.flatten_nil,List.length_append,List.length_cons,List.length_nil]
 omega
end Go.aO
namespace Go.aO.T.N
open Go Go.aO Go.Proofs Go.RowKit
set_option maxRecDepth 100000
attribute [local irreducible] Go.aO.av Go.aO.au Go.aO.aY
section
attribute [local go_sem] al.cr al.ch al.ew ai.cr ai.ch ai.ew b6 cR eH eS dp of_flat ba.row db gQ
theorem aL0 (x:b3) (hb:jw x):Pure Tryz.prog 40 [x.cQ] (.bool (n3 x)):=by
 have DM:=qS x.name
 have ad2:=qS x.bM
 have ad1:=qS x.gJ
 have aq6:=hb.kn
 have aq2:=hb.l5
 have aq5:=hb.no
 have ac7:=aM7 ay4 sn x.vars (by omega) fun v _=>aM8 v
 have ac8:=aM9 ay5 pr x.hs (by omega) fun v ae=>aN0 v (by have:=hb.aL v ae; omega) (by have:=hb.hp v ae; omega)
 have ac9:=aN1 ay6 qA x.os (by omega) fun v ae=>aN2 v (by have:=hb.sH v ae; omega)
 have DI:vq x=true→rX x=true→Pure Tryz.prog 116 [x.cQ] (.str (qx x)):=fun U aa=>aN3 x (aY2 hb U aa)
 rw[lK]at DI ⊢
 have kZ:((x.vars.map ba.row).length:Int)=(x.vars.length:Int):=by rw[List.length_map]
 have ta:((x.hs.map bL.row).length:Int)=(x.hs.length:Int):=by rw[List.length_map]
 have rR:((x.os.map cf.row).length:Int)=(x.os.length:Int):=by rw[List.length_map]
 simp only[n3,vq,rX]at DI ⊢
 generalize io x.name=Dj at*
 generalize io x.bM=WD at*
 generalize io x.gJ=WC at*
 generalize x.vars.all sn=WE at*
 generalize x.hs.all pr=FF at*
 generalize x.os.all qA=aF at*
 generalize qx x=C at*
 generalize x.vars.length=kn at*
 generalize x.hs.length=l5 at*
 generalize x.os.length=no at*
 refine cM bb Tryz.func40 YO (by simp only[b7,I.flat,db,dp,of_flat,Bool.and_self]) rfl ?_
 unfold N9 Ui
 simp(disch:=omega)only[go_sem,simprocAttr]
 refine aj ?_
 refine D.P (DM) ?_
 cases Dj
 ·refine aj ?_
  exact D.rx
 refine aj ?_
 refine D.P (ad2) ?_
 cases WD
 ·refine aj ?_
  exact D.rx
 refine aj ?_
 refine D.P (ad1) ?_
 cases WC
 ·refine aj ?_
  exact D.rx
 by_cases U:kn≤12
 rotate_left
 ·have d1:(12:Int)<(kn:Int):=by omega
  (have ah:=kZ;have z2:=d1;refine eM ?_;clear ah z2)
  refine D.r ?_
  refine⟨_,rfl,.aM ?_ rfl,trivial,trivial⟩
  simp [I.aM,U]
 have d1: ¬(12:Int)<(kn:Int):=by omega
 by_cases aa:l5≤40
 rotate_left
 ·have d2:(40:Int)<(l5:Int):=by omega
  (have ah:=kZ;have z2:=d1;have z3:=And.intro ta d2;refine dE ?_;clear ah z2 z3)
  refine D.r ?_
  refine⟨_,rfl,.aM ?_ rfl,trivial,trivial⟩
  simp [I.aM,aa]
 have d2: ¬(40:Int)<(l5:Int):=by omega
 by_cases ay:no≤40
 rotate_left
 ·have d3:(40:Int)<(no:Int):=by omega
  (have ah:=kZ;have z2:=d1;have z3:=And.intro ta (And.intro d2 (And.intro rR d3));refine dE ?_;clear ah z2 z3)
  refine D.r ?_
  refine⟨_,rfl,.aM ?_ rfl,trivial,trivial⟩
  simp [I.aM,ay]
 have d3: ¬(40:Int)<(no:Int):=by omega
 simp only[decide_eq_true U,decide_eq_true aa,decide_eq_true ay,Bool.true_and,Bool.and_true]at DI ⊢
 (have ah:=kZ;have z2:=d1;have z3:=And.intro ta (And.intro d2 (And.intro rR d3));refine dE ?_;clear ah z2 z3)
 refine D.P (ac7) ?_
 cases WE
 ·refine aj ?_
  exact D.rx
 refine aj ?_
 refine D.P (ac8) ?_
 cases FF
 ·refine aj ?_
  exact D.rx
 refine aj ?_
 refine D.P (ac9) ?_
 cases aF
 ·refine aj ?_
  exact D.rx
 refine aj ?_
 refine D.P (DI (by first|trivial|rfl) (by first|trivial|rfl)) ?_
 refine aj ?_
 refine D.r ?_
 refine⟨_,rfl,.aM ?_ rfl,trivial,trivial⟩
 simp only[I.aM,I.bool.injEq,Bool.true_and]
 exact decide_eq_decide.2 (by omega)
end
section
attribute [local go_sem] al.cr ai.cr al.ch ai.ch
theorem ES {R:Nat}(ak:R≤140737488355328): ∀(N:Nat) (l:List al),al.bz l≤N→l.length*88≤140737488355328→al.oD R l→Pure Tryz.prog 119 [.af 6 (l.map al.row)] (.int .i64 (al.gg l (l.length:Int)))
 |N,l,cW,dX,aw=>by
  refine cM bb Tryz.func119 W9 (by simp only[b7,I.flat,al.ch,Bool.and_self]) rfl ?_
  unfold ME SA
  simp(disch:=omega)only[go_sem,simprocAttr]
  (repeat' first|(apply au.s rfl;(·simp(disch:=omega)only[go_sem,simprocAttr,List.length_map]<;>with_reducible rfl))|(apply av.s true true;(·simp(disch:=omega)only[go_sem,simprocAttr,List.length_map]<;>with_reducible rfl))|apply au.nil|(refine av.dN ?_)|(apply au.gw;(·simp(disch:=omega)only[go_sem,simprocAttr,List.length_map]<;>with_reducible rfl))|(apply au.gx;(·rfl);(·simp(disch:=omega)only[go_sem,simprocAttr,List.length_map]<;>with_reducible rfl))|(apply au.gs;(·simp(disch:=omega)only[go_sem,simprocAttr,List.length_map]<;>with_reducible rfl))|((first|apply au.gz|apply au.gA|apply au.gB);(·simp(disch:=omega)only[go_sem,simprocAttr,List.length_map]<;>with_reducible rfl);(·simp(disch:=omega)only[go_sem,simprocAttr,List.length_map]<;>with_reducible rfl);(·assumption);(·omega))|intro h)
  refine av.c5 (X:=Nat×Int) (0,(l.length:Int)) (fun x=>[(0,.af 6 (l.map al.row)),(3,.int .i64 x.2),(4,.int .i64 (x.1:Int))]) (fun _=>[]) (fun _=>[]) (fun x=>x.1≤l.length∧al.gg (l.drop x.1) x.2=al.gg l (l.length:Int)) (fun x=>l.length-x.1) ⟨Nat.zero_le _,rfl⟩ ⟨rfl,rfl,rfl,trivial⟩ trivial trivial ?_
  rintro⟨i,z⟩ ⟨ad,aG⟩
  try simp only at ad aG ⊢
  cases ae:l[i]? with
  |some v=>
   have cB:=(List.getElem?_eq_some_iff.1 ae).1
   have hm:=al.nx ae
   have oz:=al.yq aw ae
   obtain⟨k,o,m,t,n,a⟩:=v
   have d1:(i:Int)<((l.map al.row).length:Int):=by rw[List.length_map]; omega
   match N,cW with
   |0,cW=>simp only[al.bJ]at hm; omega
   |N+1,cW=>
   simp only[al.bJ]at hm
   (have ah:=d1;refine bE ?_;clear ah)
   refine D.P (ES ak N a (by omega) (Nat.le_trans oz.2.2.2.2.2.1 ak) oz.2.2.2.2.2.2) ?_
   refine aj ?_
   refine av.dO (i+1,_) ⟨by omega,?_⟩ ⟨rfl,rfl,rfl,trivial⟩ trivial trivial rfl rfl (by show l.length-(i+1)<l.length-i; omega)
   rw[fY ae]at aG
   simp only[al.gg,al.am]at aG
   exact aG
  |none=>
   have cg:=List.getElem?_eq_none_iff.1 ae
   have e:i=l.length:=by omega
   subst e
   have d1: ¬(l.length:Int)<((l.map al.row).length:Int):=by rw[List.length_map]; omega
   rw[List.drop_length]at aG
   simp only[al.gg]at aG
   subst aG
   (have ah:=d1;refine bE ?_;clear ah)
   exact D.rx
theorem IX {R:Nat}(ak:R≤140737488355328): ∀(N:Nat) (l:List ai),ai.bz l≤N→l.length*168≤R→ai.oD R l→Pure Tryz.prog 118 [.af 11 (l.map ai.row)] (.int .i64 (ai.gg l (l.length:Int)))
 |N,l,cW,dX,aw=>by
  refine cM bb Tryz.func118 W8 (by simp only[b7,I.flat,ai.ch,Bool.and_self]) rfl ?_
  unfold MD Sz
  simp(disch:=omega)only[go_sem,simprocAttr]
  (repeat' first|(apply au.s rfl;(·simp(disch:=omega)only[go_sem,simprocAttr,List.length_map]<;>with_reducible rfl))|(apply av.s true true;(·simp(disch:=omega)only[go_sem,simprocAttr,List.length_map]<;>with_reducible rfl))|apply au.nil|(refine av.dN ?_)|(apply au.gw;(·simp(disch:=omega)only[go_sem,simprocAttr,List.length_map]<;>with_reducible rfl))|(apply au.gx;(·rfl);(·simp(disch:=omega)only[go_sem,simprocAttr,List.length_map]<;>with_reducible rfl))|(apply au.gs;(·simp(disch:=omega)only[go_sem,simprocAttr,List.length_map]<;>with_reducible rfl))|((first|apply au.gz|apply au.gA|apply au.gB);(·simp(disch:=omega)only[go_sem,simprocAttr,List.length_map]<;>with_reducible rfl);(·simp(disch:=omega)only[go_sem,simprocAttr,List.length_map]<;>with_reducible rfl);(·assumption);(·omega))|intro h)
  refine av.c5 (X:=Nat×Int) (0,(l.length:Int)) (fun x=>[(0,.af 11 (l.map ai.row)),(3,.int .i64 x.2),(4,.int .i64 (x.1:Int))]) (fun _=>[]) (fun _=>[]) (fun x=>x.1≤l.length∧ai.gg (l.drop x.1) x.2=ai.gg l (l.length:Int)) (fun x=>l.length-x.1) ⟨Nat.zero_le _,rfl⟩ ⟨rfl,rfl,rfl,trivial⟩ trivial trivial ?_
  rintro⟨i,z⟩ ⟨ad,aG⟩
  try simp only at ad aG ⊢
  cases ae:l[i]? with
  |some v=>
   have cB:=(List.getElem?_eq_some_iff.1 ae).1
   have hm:=ai.nx ae
   have oz:=ai.yq aw ae
   obtain⟨k,m,x,t,a,b⟩:=v
   have ar:Pure Tryz.prog 119 [.af 6 [x.row]] (.int .i64 (IntKind.i64.wrap (1+x.am))):=ES ak x.bJ [x] (by simp [al.bz]) (by show 1*88≤ _; decide) ⟨oz.2.2.1,trivial⟩
   obtain⟨bi,eR,m2,t2,rH,fG⟩:=x
   have d1:(i:Int)<((l.map ai.row).length:Int):=by rw[List.length_map]; omega
   match N,cW with
   |0,cW=>simp only[ai.bJ]at hm; omega
   |N+1,cW=>
   simp only[ai.bJ]at hm
   simp(disch:=omega)only[go_sem,simprocAttr]at ar
   have ax:=IX ak N a (by omega) oz.2.2.2.2.1 oz.2.2.2.2.2.2.1
   have bU:=IX ak N b (by omega) oz.2.2.2.2.2.1 oz.2.2.2.2.2.2.2
   (have ah:=d1;refine yV ?_;clear ah)
   refine av.block ?_
   refine av.iU (anns:=[.int .i64 (IntKind.i64.wrap (1+(al.mk bi eR m2 t2 rH fG).am)),.int .i64 (ai.gg a (a.length:Int)),.int .i64 (ai.gg b (b.length:Int))]) ?_
   refine dc ?_
   refine D.fL ar ?_
   refine dc ?_
   refine D.fL ax ?_
   refine dc ?_
   refine D.fL bU ?_
   refine aj ?_
   refine av.dO (i+1,_) ⟨by omega,?_⟩ ⟨rfl,rfl,rfl,trivial⟩ trivial trivial rfl rfl (by show l.length-(i+1)<l.length-i; omega)
   rw[fY ae]at aG
   simp only[ai.gg,ai.am]at aG
   exact aG
  |none=>
   have cg:=List.getElem?_eq_none_iff.1 ae
   have e:i=l.length:=by omega
   subst e
   have d1: ¬(l.length:Int)<((l.map ai.row).length:Int):=by rw[List.length_map]; omega
   rw[List.drop_length]at aG
   simp only[ai.gg]at aG
   subst aG
   (have ah:=d1;refine bE ?_;clear ah)
   exact D.rx
theorem ET {R:Nat}(ak:R≤140737488355328): ∀(N:Nat) (l:List al),al.bz l≤N→l.length*88≤140737488355328→al.oD R l→Pure Tryz.prog 65 [.af 6 (l.map al.row)] (.af 6 (l.map al.row))
 |N,l,cW,dX,aw=>by
  refine cM bb Tryz.func65 YV (by simp only[b7,I.flat,al.ch,Bool.and_self]) (by simp only[b7,I.flat,al.ch,Bool.and_self]) ?_
  unfold Oe Up
  simp(disch:=omega)only[go_sem,simprocAttr]
  refine av.seq ?_
  refine av.dN ?_
  refine dc ?_
  refine av.seq ?_
  refine av.dN ?_
  refine dc ?_
  refine av.uM 3 6 80 rfl (by decide) ?_
  simp(disch:=omega)only[go_sem,simprocAttr]
  refine aj ?_
  refine av.c5 (X:=Nat) 0 (fun i=>[(0,.af 6 (l.map al.row)),(3,.own 0 6 ((l.take i).map al.row)),(4,.int .i64 (i:Int))]) (fun _=>[]) (fun i=>[(0,.bX 80 6 ((l.take i).map al.row).length)]) (fun i=>i≤l.length) (fun i=>l.length-i) (Nat.zero_le _) ⟨rfl,rfl,rfl,trivial⟩ trivial ⟨rfl,trivial⟩ ?_
  intro i ad
  try simp only at ad ⊢
  cases ae:l[i]? with
  |some v=>
   have cB:=(List.getElem?_eq_some_iff.1 ae).1
   have hm:=al.nx ae
   have oz:=al.yq aw ae
   have ei:=rP al.row ae
   have hlen:(l.take i).length=i:=by simp; omega
   obtain⟨k,o,m,t,n,a⟩:=v
   simp only[al.cr]at ei
   have d1:(i:Int)<((l.map al.row).length:Int):=by rw[List.length_map]; omega
   match N,cW with
   |0,cW=>simp only[al.bJ]at hm; omega
   |N+1,cW=>
   simp only[al.bJ]at hm
   have ar:=ET ak N a (by omega) (Nat.le_trans oz.2.2.2.2.2.1 ak) oz.2.2.2.2.2.2
   (have ah:=d1;refine yV ?_;clear ah)
   refine av.block ?_
   refine av.seq ?_
   refine av.dN ?_
   refine dc ?_
   refine av.iU (anns:=[.af 6 (a.map al.row)]) ?_
   refine dc ?_
   refine D.fL ar ?_
   refine dc ?_
   refine D.hQ ?_
   refine aj ?_
   refine av.oG (i+1) (by omega) ⟨rfl,by simp only[ei]; rfl,rfl,trivial⟩ trivial ⟨by simp only[ei,List.length_append]; rfl,trivial⟩ rfl (by simp only[lq,ed,fA,fB,kd,I.dW,cb.bX,go_sem]<;>rfl) (by show l.length-(i+1)<l.length-i; omega)
  |none=>
   have cg:=List.getElem?_eq_none_iff.1 ae
   have e:i=l.length:=by omega
   subst e
   have d1: ¬(l.length:Int)<((l.map al.row).length:Int):=by rw[List.length_map]; omega
   simp only[List.take_length]
   (have ah:=d1;refine bE ?_;clear ah)
   refine D.r ?_
   exact⟨_,rfl,.aM rfl (by simp only[I.flat,al.ch]),trivial,trivial⟩
theorem IY {R:Nat}(ak:R≤140737488355328): ∀(N:Nat) (l:List ai),ai.bz l≤N→l.length*168≤140737488355328→ai.oD R l→Pure Tryz.prog 64 [.af 11 (l.map ai.row)] (.af 11 (l.map ai.row))
 |N,l,cW,dX,aw=>by
  refine cM bb Tryz.func64 YU (by simp only[b7,I.flat,ai.ch,Bool.and_self]) (by simp only[b7,I.flat,ai.ch,Bool.and_self]) ?_
  unfold Od Uo
  simp(disch:=omega)only[go_sem,simprocAttr]
  refine av.seq ?_
  refine av.dN ?_
  refine dc ?_
  refine av.seq ?_
  refine av.dN ?_
  refine dc ?_
  refine av.uM 3 11 82 rfl (by decide) ?_
  simp(disch:=omega)only[go_sem,simprocAttr]
  refine aj ?_
  refine av.c5 (X:=Nat) 0 (fun i=>[(0,.af 11 (l.map ai.row)),(3,.own 0 11 ((l.take i).map ai.row)),(4,.int .i64 (i:Int))]) (fun _=>[]) (fun i=>[(0,.bX 82 11 ((l.take i).map ai.row).length)]) (fun i=>i≤l.length) (fun i=>l.length-i) (Nat.zero_le _) ⟨rfl,rfl,rfl,trivial⟩ trivial ⟨rfl,trivial⟩ ?_
  intro i ad
  try simp only at ad ⊢
  cases ae:l[i]? with
  |some v=>
   have cB:=(List.getElem?_eq_some_iff.1 ae).1
   have hm:=ai.nx ae
   have oz:=ai.yq aw ae
   have ei:=rP ai.row ae
   have hlen:(l.take i).length=i:=by simp; omega
   obtain⟨k,m,x,t,a,b⟩:=v
   have cA:Pure Tryz.prog 65 [.af 6 [x.row]] (.af 6 [x.row]):=ET ak x.bJ [x] (by simp [al.bz]) (by show 1*88≤ _; decide) ⟨oz.2.2.1,trivial⟩
   obtain⟨bi,eR,m2,t2,rH,fG⟩:=x
   simp only[ai.cr,al.cr,List.cons_append,List.nil_append]at ei
   simp(disch:=omega)only[go_sem,simprocAttr]at cA
   have d1:(i:Int)<((l.map ai.row).length:Int):=by rw[List.length_map]; omega
   match N,cW with
   |0,cW=>simp only[ai.bJ]at hm; omega
   |N+1,cW=>
   simp only[ai.bJ]at hm
   have ar:=IY ak N a (by omega) (Nat.le_trans oz.2.2.2.2.1 ak) oz.2.2.2.2.2.2.1
   have ax:=IY ak N b (by omega) (Nat.le_trans oz.2.2.2.2.2.1 ak) oz.2.2.2.2.2.2.2
   (have ah:=d1;refine yV ?_;clear ah)
   refine av.block ?_
   refine av.seq ?_
   refine av.dN ?_
   refine dc ?_
   refine av.iU (anns:=[.af 6 [[.int .i64 bi,.str eR,.str m2,.str t2,.int .i64 rH,.af 6 (fG.map al.row)]],.af 11 (a.map ai.row),.af 11 (b.map ai.row)]) ?_
   refine dc ?_
   refine D.fL cA ?_
   refine dc ?_
   refine D.fL ar ?_
   refine dc ?_
   refine D.fL ax ?_
   refine dc ?_
   refine D.hQ ?_
   refine aj ?_
   refine av.oG (i+1) (by omega) ⟨rfl,by simp only[ei]; rfl,rfl,trivial⟩ trivial ⟨by simp only[ei,List.length_append]; rfl,trivial⟩ rfl (by simp only[lq,ed,fA,fB,kd,I.dW,cb.bX,go_sem]<;>rfl) (by show l.length-(i+1)<l.length-i; omega)
  |none=>
   have cg:=List.getElem?_eq_none_iff.1 ae
   have e:i=l.length:=by omega
   subst e
   have d1: ¬(l.length:Int)<((l.map ai.row).length:Int):=by rw[List.length_map]; omega
   simp only[List.take_length]
   (have ah:=d1;refine bE ?_;clear ah)
   refine D.r ?_
   exact⟨_,rfl,.aM rfl (by simp only[I.flat,ai.ch]),trivial,trivial⟩
end
section
attribute [local go_sem] al.cr ai.cr al.ch ai.ch b6 cR eH eS dp of_flat
attribute [local go_sem] ba.row db gQ eZ
set_option maxHeartbeats 1000000 in
theorem ER {R:Nat}(ak:R≤140737488355328) (x:b3) (ab:x.ok R):Pure Tryz.prog 44 [x.cQ] (.bool (iP x)):=by
 have fG:=Qi ak (by decide) ab.l5
 have nw:=Qi ak (by decide) ab.no
 replace fG:x.hs.length≤9223372036854775807:=by unfold maxLen at fG; omega
 replace nw:x.os.length≤9223372036854775807:=by unfold maxLen at nw; omega
 rw[lK]
 refine cM bb Tryz.func44 YQ (by simp only[b7,I.flat,db,dp,of_flat,Bool.and_self]) rfl ?_
 unfold Ob Uj
 simp(disch:=omega)only[go_sem,simprocAttr]
 refine aj ?_
 refine av.c5 (X:=Nat×Int) (0,0) (fun p=>[(1,.ptr 0 0),(3,.int .i64 p.2),(4,.int .i64 (p.1:Int))]) (fun _=>[(0,26,x.cells)]) (fun _=>[]) (fun p=>p.1≤x.hs.length∧kQ (x.hs.drop p.1) p.2=kQ x.hs 0) (fun p=>x.hs.length-p.1) ⟨Nat.zero_le _,rfl⟩ ⟨rfl,rfl,rfl,trivial⟩ ⟨rfl,trivial⟩ trivial ?_
 rintro⟨i,z⟩ ⟨ad,aG⟩
 try simp only at ad aG ⊢
 cases ae:x.hs[i]? with
 |some v=>
  have cB:=(List.getElem?_eq_some_iff.1 ae).1
  have iT:=ab.hs v (List.mem_of_getElem? ae)
  have d1:(i:Int)<((x.hs.map bL.row).length:Int):=by rw[List.length_map]; omega
  have ar:=IX ak (ai.bz v.body) v.body (Nat.le_refl _) iT.2.2.2.2.1 iT.2.2.2.2.2
  rw[fY ae]at aG
  simp only[kQ]at aG
  have qh:((v.ps.map b6).length:Int)=(v.ps.length:Int):=by rw[List.length_map]
  (repeat' first|(apply au.s rfl;(·simp(disch:=omega)only[go_sem,simprocAttr,d1,qh]<;>with_reducible rfl))|(apply av.s true true;(·simp(disch:=omega)only[go_sem,simprocAttr,d1,qh]<;>with_reducible rfl))|apply au.nil|(refine av.dN ?_)|(apply au.gw;(·simp(disch:=omega)only[go_sem,simprocAttr,d1,qh]<;>with_reducible rfl))|(apply au.gx;(·rfl);(·simp(disch:=omega)only[go_sem,simprocAttr,d1,qh]<;>with_reducible rfl))|(apply au.gs;(·simp(disch:=omega)only[go_sem,simprocAttr,d1,qh]<;>with_reducible rfl))|((first|apply au.gz|apply au.gA|apply au.gB);(·simp(disch:=omega)only[go_sem,simprocAttr,d1,qh]<;>with_reducible rfl);(·simp(disch:=omega)only[go_sem,simprocAttr,d1,qh]<;>with_reducible rfl);(·assumption);(·omega))|intro h|(apply av.cond;(·simp(disch:=omega)only[go_sem,simprocAttr,d1,qh]<;>with_reducible rfl)))
  ·simp only[decide_eq_true_eq]at h
   rw[if_pos (by omega)]at aG
   refine D.r ?_
   refine⟨_,rfl,.aM ?_ rfl,trivial,trivial⟩
   simp only[iP,←aG,I.aM]
  ·simp only[decide_eq_false_iff_not]at h
   rw[if_neg (by omega)]at aG
   refine D.P (ar) ?_
   refine aj ?_
   refine av.dO (i+1,_) ⟨by omega,aG⟩ ⟨rfl,rfl,rfl,trivial⟩ ⟨rfl,trivial⟩ trivial rfl rfl (by show x.hs.length-(i+1)<x.hs.length-i; omega)
 |none=>
 have cg:=List.getElem?_eq_none_iff.1 ae
 have cA:i=x.hs.length:=by omega
 subst cA
 have d1: ¬(x.hs.length:Int)<((x.hs.map bL.row).length:Int):=by rw[List.length_map]; omega
 rw[List.drop_length]at aG
 simp only[kQ]at aG
 have mz:iP x=(decide (nq x.os z≤500)&&(decide (x.vars.length≤60)&&(decide (x.hs.length≤60)&&decide (x.os.length≤60)))):=by simp only[iP,←aG]
 rw[mz]
 clear ad ae cg aG mz
 (have ah:=d1;refine bE ?_;clear ah)
 refine av.c5 (X:=Nat×Int) (0,z) (fun p=>[(1,.ptr 0 0),(3,.int .i64 p.2),(5,.int .i64 (p.1:Int))]) (fun _=>[(0,26,x.cells)]) (fun _=>[]) (fun p=>p.1≤x.os.length∧nq (x.os.drop p.1) p.2=nq x.os z) (fun p=>x.os.length-p.1) ⟨Nat.zero_le _,rfl⟩ ⟨rfl,rfl,rfl,trivial⟩ ⟨rfl,trivial⟩ trivial ?_
 rintro⟨i,y⟩ ⟨ad,aG⟩
 try simp only at ad aG ⊢
 cases ae:x.os[i]? with
 |some v=>
  have cB:=(List.getElem?_eq_some_iff.1 ae).1
  have iT:=ab.os v (List.mem_of_getElem? ae)
  have d1:(i:Int)<((x.os.map cf.row).length:Int):=by rw[List.length_map]; omega
  have ar:=ES ak (al.bz v.args) v.args (Nat.le_refl _) (Nat.le_trans iT.2.2.1 ak) iT.2.2.2.1
  have ax:=ES ak (al.bz v.dk) v.dk (Nat.le_refl _) (Nat.le_trans iT.2.2.2.2.1 ak) iT.2.2.2.2.2
  rw[fY ae]at aG
  simp only[nq]at aG
  (have ah:=d1;refine yV ?_;clear ah)
  refine av.block ?_
  refine av.iU (anns:=[.int .i64 (al.gg v.args (v.args.length:Int)),.int .i64 (al.gg v.dk (v.dk.length:Int))]) ?_
  refine dc ?_
  refine D.fL ar ?_
  refine dc ?_
  refine D.fL ax ?_
  refine aj ?_
  refine av.dO (i+1,_) ⟨by omega,aG⟩ ⟨rfl,rfl,rfl,trivial⟩ ⟨rfl,trivial⟩ trivial rfl rfl (by show x.os.length-(i+1)<x.os.length-i; omega)
 |none=>
 have cg:=List.getElem?_eq_none_iff.1 ae
 have cA:i=x.os.length:=by omega
 subst cA
 have d1: ¬(x.os.length:Int)<((x.os.map cf.row).length:Int):=by rw[List.length_map]; omega
 rw[List.drop_length]at aG
 simp only[nq]at aG
 subst aG
 (repeat' first|(apply au.s rfl;(·simp(disch:=omega)only[go_sem,simprocAttr,d1]<;>with_reducible rfl))|(apply av.s true true;(·simp(disch:=omega)only[go_sem,simprocAttr,d1]<;>with_reducible rfl))|apply au.nil|(refine av.dN ?_)|(apply au.gw;(·simp(disch:=omega)only[go_sem,simprocAttr,d1]<;>with_reducible rfl))|(apply au.gx;(·rfl);(·simp(disch:=omega)only[go_sem,simprocAttr,d1]<;>with_reducible rfl))|(apply au.gs;(·simp(disch:=omega)only[go_sem,simprocAttr,d1]<;>with_reducible rfl))|((first|apply au.gz|apply au.gA|apply au.gB);(·simp(disch:=omega)only[go_sem,simprocAttr,d1]<;>with_reducible rfl);(·simp(disch:=omega)only[go_sem,simprocAttr,d1]<;>with_reducible rfl);(·assumption);(·omega))|intro h)
 all_goals
  refine D.R ?_
  refine⟨_,rfl,.aM ?_ rfl,trivial,trivial⟩
  have FV: ∀n:Nat,((n:Int)≤60)=(n≤60):=fun n=>propext (by omega)
  simp only[List.length_map,FV]at*
  simp_all [I.aM]<;>omega
end
section
attribute [local go_sem] al.cr ai.cr al.ch ai.ch b6 cR eH eS dp of_flat
attribute [local go_sem] ba.row db gQ eZ
abbrev CW:List I:=[.str [],.str [],.str [],.aD,.aD,.aD]
set_option maxHeartbeats 4000000 in
theorem wY {R:Nat}(ak:R≤140737488355328) (x:b3) (ab:x.ok R):Pure Tryz.prog 21 [x.cQ] x.cQ:=by
 have aH:=ab.kn
 have fG:=ab.l5
 have nw:=ab.no
 rw[lK]
 refine cM bb Tryz.func21 XH (by simp only[b7,I.flat,db,dp,of_flat,Bool.and_self]) (by simp only[b7,I.flat,db,dp,of_flat,Bool.and_self]) ?_
 unfold mu S9
 simp(disch:=omega)only[go_sem,simprocAttr]
 refine av.seq ?_
 refine av.dN ?_
 refine dc ?_
 refine av.seq ?_
 refine av.dN ?_
 refine dc ?_
 refine av.ou 2 3 7 146 rfl rfl (by decide) ?_
 simp(disch:=omega)only[go_sem,simprocAttr]
 refine av.ou 2 4 4 84 rfl rfl (by decide) ?_
 simp(disch:=omega)only[go_sem,simprocAttr]
 refine av.ou 2 5 4 148 rfl rfl (by decide) ?_
 simp(disch:=omega)only[go_sem,simprocAttr]
 refine aj ?_
 refine av.c5 (X:=Nat) 0 (fun i=>[(1,.ptr 0 0),(2,.ptr 1 0),(3,.ptr 2 0),(4,.int .i64 (i:Int))]) (fun i=>[(0,26,x.cells),(1,48,CW),(2,48,[.str x.name,.str x.bM,.str x.gJ,.own 0 7 ((x.vars.take i).map ba.row),.own 1 4 (([]:List bL).map bL.row),.own 2 4 (([]:List cf).map cf.row)])]) (fun i=>[(0,.bX 146 7 ((x.vars.take i).map ba.row).length),(1,.bX 84 4 (([]:List bL).map bL.row).length),(2,.bX 148 4 (([]:List cf).map cf.row).length)]) (fun i=>i≤x.vars.length) (fun i=>x.vars.length-i) (Nat.zero_le _) ⟨rfl,rfl,rfl,rfl,trivial⟩ ⟨rfl,rfl,rfl,trivial⟩ ⟨rfl,rfl,rfl,trivial⟩ ?_
 intro i ad
 try simp only at ad ⊢
 cases ae:x.vars[i]? with
 |some v=>
  have cB:=(List.getElem?_eq_some_iff.1 ae).1
  have hlen:(x.vars.take i).length=i:=by simp; omega
  have ei:=rP ba.row ae
  have d1:(i:Int)<((x.vars.map ba.row).length:Int):=by rw[List.length_map]; omega
  (have ah:=d1;refine bE ?_;clear ah)
  refine D.hQ ?_
  refine aj ?_
  refine av.dO (i+1) (by omega) ⟨rfl,rfl,rfl,rfl,trivial⟩ (by refine⟨rfl,rfl,?_,trivial⟩; simp only[ei]; rfl) (by refine⟨?_,rfl,rfl,trivial⟩; simp only[ei,List.length_append]; rfl) rfl rfl (by show x.vars.length-(i+1)<x.vars.length-i; omega)
 |none=>
 have cg:=List.getElem?_eq_none_iff.1 ae
 have e:i=x.vars.length:=by omega
 subst e
 have d1: ¬(x.vars.length:Int)<((x.vars.map ba.row).length:Int):=by rw[List.length_map]; omega
 simp only[List.take_length]
 clear ad ae cg
 (have ah:=d1;refine bE ?_;clear ah)
 refine av.c5 (X:=Nat) 0 (fun i=>[(1,.ptr 0 0),(2,.ptr 1 0),(3,.ptr 2 0),(5,.int .i64 (i:Int))]) (fun i=>[(0,26,x.cells),(1,48,CW),(2,48,[.str x.name,.str x.bM,.str x.gJ,.own 0 7 (x.vars.map ba.row),.own 1 4 ((x.hs.take i).map bL.row),.own 2 4 (([]:List cf).map cf.row)])]) (fun i=>[(0,.bX 146 7 (x.vars.map ba.row).length),(1,.bX 84 4 ((x.hs.take i).map bL.row).length),(2,.bX 148 4 (([]:List cf).map cf.row).length)]) (fun i=>i≤x.hs.length) (fun i=>x.hs.length-i) (Nat.zero_le _) ⟨rfl,rfl,rfl,rfl,trivial⟩ ⟨rfl,rfl,rfl,trivial⟩ ⟨rfl,rfl,rfl,trivial⟩ ?_
 intro i ad
 try simp only at ad ⊢
 cases ae:x.hs[i]? with
 |some v=>
  have cB:=(List.getElem?_eq_some_iff.1 ae).1
  have hlen:(x.hs.take i).length=i:=by simp; omega
  have ei:=rP bL.row ae
  have d1:(i:Int)<((x.hs.map bL.row).length:Int):=by rw[List.length_map]; omega
  have iT:=ab.hs v (List.mem_of_getElem? ae)
  have ar:=IY ak (ai.bz v.body) v.body (Nat.le_refl _) (Nat.le_trans iT.2.2.2.2.1 ak) iT.2.2.2.2.2
  simp only[eH]at ei
  (have ah:=d1;refine yV ?_;clear ah)
  refine av.block ?_
  refine av.seq ?_
  refine av.dN ?_
  refine dc ?_
  refine av.iU (anns:=[.af 11 (v.body.map ai.row)]) ?_
  refine dc ?_
  refine D.fL ar ?_
  refine dc ?_
  refine D.hQ ?_
  refine aj ?_
  refine av.oG (i+1) (by omega) ⟨rfl,rfl,rfl,rfl,trivial⟩ (by refine⟨rfl,rfl,?_,trivial⟩; simp only[ei]; rfl) (by refine⟨rfl,?_,rfl,trivial⟩; simp only[ei,List.length_append]; rfl) rfl (by simp only[gQ,CW,lq,ed,fA,fB,kd,I.dW,cb.bX,db,dp,of_flat,go_sem]<;>rfl) (by show x.hs.length-(i+1)<x.hs.length-i; omega)
 |none=>
 have cg:=List.getElem?_eq_none_iff.1 ae
 have e:i=x.hs.length:=by omega
 subst e
 have d1: ¬(x.hs.length:Int)<((x.hs.map bL.row).length:Int):=by rw[List.length_map]; omega
 simp only[List.take_length]
 clear ad ae cg
 (have ah:=d1;refine bE ?_;clear ah)
 refine av.c5 (X:=Nat) 0 (fun i=>[(1,.ptr 0 0),(2,.ptr 1 0),(3,.ptr 2 0),(7,.int .i64 (i:Int))]) (fun i=>[(0,26,x.cells),(1,48,CW),(2,48,[.str x.name,.str x.bM,.str x.gJ,.own 0 7 (x.vars.map ba.row),.own 1 4 (x.hs.map bL.row),.own 2 4 ((x.os.take i).map cf.row)])]) (fun i=>[(0,.bX 146 7 (x.vars.map ba.row).length),(1,.bX 84 4 (x.hs.map bL.row).length),(2,.bX 148 4 ((x.os.take i).map cf.row).length)]) (fun i=>i≤x.os.length) (fun i=>x.os.length-i) (Nat.zero_le _) ⟨rfl,rfl,rfl,rfl,trivial⟩ ⟨rfl,rfl,rfl,trivial⟩ ⟨rfl,rfl,rfl,trivial⟩ ?_
 intro i ad
 try simp only at ad ⊢
 cases ae:x.os[i]? with
 |some v=>
  have cB:=(List.getElem?_eq_some_iff.1 ae).1
  have hlen:(x.os.take i).length=i:=by simp; omega
  have ei:=rP cf.row ae
  have d1:(i:Int)<((x.os.map cf.row).length:Int):=by rw[List.length_map]; omega
  have iT:=ab.os v (List.mem_of_getElem? ae)
  have ar:=ET ak (al.bz v.args) v.args (Nat.le_refl _) (Nat.le_trans iT.2.2.1 ak) iT.2.2.2.1
  have ax:=ET ak (al.bz v.dk) v.dk (Nat.le_refl _) (Nat.le_trans iT.2.2.2.2.1 ak) iT.2.2.2.2.2
  simp only[eS]at ei
  (have ah:=d1;refine yV ?_;clear ah)
  refine av.block ?_
  refine av.seq ?_
  refine av.dN ?_
  refine dc ?_
  refine av.iU (anns:=[.af 6 (v.args.map al.row),.af 6 (v.dk.map al.row)]) ?_
  refine dc ?_
  refine D.fL ar ?_
  refine dc ?_
  refine D.fL ax ?_
  refine dc ?_
  refine D.hQ ?_
  refine aj ?_
  refine av.oG (i+1) (by omega) ⟨rfl,rfl,rfl,rfl,trivial⟩ (by refine⟨rfl,rfl,?_,trivial⟩; simp only[ei]; rfl) (by refine⟨rfl,rfl,?_,trivial⟩; simp only[ei,List.length_append]; rfl) rfl (by simp only[gQ,CW,lq,ed,fA,fB,kd,I.dW,cb.bX,db,dp,of_flat,go_sem]<;>rfl) (by show x.os.length-(i+1)<x.os.length-i; omega)
 |none=>
 have cg:=List.getElem?_eq_none_iff.1 ae
 have e:i=x.os.length:=by omega
 subst e
 have d1: ¬(x.os.length:Int)<((x.os.map cf.row).length:Int):=by rw[List.length_map]; omega
 simp only[List.take_length]
 clear ad ae cg
 (have ah:=d1;refine bE ?_;clear ah)
 refine D.r ?_
 refine⟨_,rfl,?_,trivial,trivial⟩
 exact .aM rfl (by simp only[b7,I.flat,db,dp,of_flat,Bool.and_self])
end
end Go.aO.T.N
namespace Go.aO
open Go Go.aO.T.N
structure Fd where
 name:List UInt8
 kind:Int
 cJ:Int
 ad:Int
structure bs where
 name:List UInt8
 fields:List Fd
 first:Int
 ep:List (Int×Int×Int)
 eqs:List (Int×Int)
structure cD where
 hM:Int
 oO:Int
 ri:Int
 re:Int
 dst:Int
 again:Bool
structure dr where
 state:Int
 JH:Int
 wq:Int
structure cd where
 name:List UInt8
 cC:List (List UInt8)
 decls:List bs
 iI:Int
 start:Int
 fin:Int
 cy:List cD
 fH:List dr
def Fd.row (f:Fd):List I:=[.str f.name,.int .i64 f.kind,.int .i64 f.cJ,.int .i64 f.ad]
def dn (d:Int×Int×Int):List I:=[.int .i64 d.1,.int .i64 d.2.1,.int .i64 d.2.2]
def dz (d:Int×Int):List I:=[.int .i64 d.1,.int .i64 d.2]
def bs.row (d:bs):List I:=[.str d.name,.af 4 (d.fields.map Fd.row),.int .i64 d.first,.af 3 (d.ep.map dn),.af 2 (d.eqs.map dz)]
def cD.row (e:cD):List I:=[.int .i64 e.hM,.int .i64 e.oO,.int .i64 e.ri,.int .i64 e.re,.int .i64 e.dst,.bool e.again]
def dr.row (t:dr):List I:=[.int .i64 t.state,.int .i64 t.JH,.int .i64 t.wq]
def cd.cells (g:cd):List I:=[.str g.name,.af 1 (g.cC.map b6),.af 5 (g.decls.map bs.row),.int .i64 g.iI,.int .i64 g.start,.int .i64 g.fin,.af 6 (g.cy.map cD.row),.af 3 (g.fH.map dr.row)]
def cd.cQ (g:cd):I:= .agg g.cells
def Cv:List (List UInt8)→List (List UInt8)→Bool
 | _,[]=>true
 |ahead,x::l=>io x&&(!ahead.contains x&&Cv (ahead++[x]) l)
def Cc (g:cd):Bool:=io g.name&&(decide (1≤g.cC.length)&&(decide (g.cC.length≤6)&&Cv [] g.cC))
def A7 (g:cd) (e:cD):Bool:=
 decide (0≤e.hM)&&(decide (0≤e.dst)&&(decide (0≤e.oO)&&(decide (0≤e.ri)&&(decide (0≤e.re)&&(decide (e.hM<g.iI)&&(decide (e.dst<g.iI)&&(decide (e.oO<g.cC.length)&&(decide (e.ri<g.cC.length)&&(!decide (e.oO=e.ri)&&decide (e.re<g.decls.length))))))))))
def wS (g:cd):Bool:=
 decide (1≤g.iI)&&(decide (g.iI≤200)&&(decide (0≤g.start)&&(decide (0≤g.fin)&&(decide (g.start<g.iI)&&(decide (g.fin<g.iI)&&(decide (g.cy.length≤400)&&g.cy.all (A7 g)))))))
def pG (k cJ ad:Int):Bool:=
 if k=1 then decide (-1000≤cJ)&&(decide (cJ≤ad)&&decide (ad≤1000))
 else if k=2 then decide (0≤cJ)&&(decide (cJ≤ad)&&decide (ad≤40))
 else false
def DB (n:Nat) (x:Int×Int×Int):Bool:=decide (-1≤min x.1 x.2.1)&&(decide (max x.1 x.2.1<n)&&(decide (-20000≤x.2.2)&&decide (x.2.2≤20000)))
def q0 (all:List Fd) (i:Int):Bool:=decide (0≤i)&&(decide (i<all.length)&&match all[i.toNat]? with|some f=>decide (f.kind=2)|none=>false)
def A9 (all:List Fd) (x:Int×Int):Bool:=q0 all x.1&&q0 all x.2
def xS (all:List Fd) (d:bs):Bool:=
 decide (d.ep.length≤20)&&(decide (d.eqs.length≤20)&&(d.ep.all (DB all.length)&&d.eqs.all (A9 all)))
def pD (f:Nat→cD→Bool):Nat→List cD→Bool
 | _,[]=>true
 |i,e::l=>f i e&&pD f (i+1) l
def vp (i:Nat) (x:cD) (k:Nat) (y:cD):Bool:=
 !((!decide (i=k)&&decide (x.hM=y.hM))&&((decide (x.oO=y.oO)&&(decide (x.ri=y.ri)&&decide (x.re=y.re)))||(!decide (x.oO=y.oO)||x.again)))&&
  !(x.again&&(decide (y.dst=x.hM)&&(!decide (x.oO=y.oO)|| !decide (x.re=y.re))))
def EK (g:cd) (i:Nat) (x:cD):Bool:= !(decide (x.hM=g.fin)||(x.again&&decide (x.hM=g.start)))&&pD (vp i x) 0 g.cy
def Cl (g:cd):Bool:=pD (EK g) 0 g.cy
def tG:List Fd→List Fd→Bool
 | _,[]=>true
 |ahead,f::l=>io f.name&&(pG f.kind f.cJ f.ad&&(!ahead.any (fun x=>decide (x.name=f.name))&&tG (ahead++[f]) l))
def qp (l:List bs):List Fd:=l.flatMap bs.fields
def uE (all:List Fd):List bs→Int→List bs→Bool
 | _,_,[]=>true
 |ahead,at',d::l=>rJ d.name&&(decide (d.fields.length≤4)&&(decide (d.first=at')&&(!ahead.any (fun x=>decide (x.name=d.name))&&(tG [] d.fields&&(xS all d&&uE all (ahead++[d]) (at'+d.fields.length) l)))))
def uf (l:List bs):Bool:=decide (l.length≤40)&&(decide ((qp l).length≤24)&&uE (qp l) [] 0 l)
def zk (l:List bs):Bool:=decide (l.length=0)||uf l
def qw (first:Int):Nat→List Fd→List (Int×Int×Int)
 | _,[]=>[]
 |i,f::l=>(first+i,-1,f.ad)::(-1,first+i,-f.cJ)::qw first (i+1) l
def qv:List (Int×Int)→List (Int×Int×Int)
 |[]=>[]
 |e::l=>(e.1,e.2,0)::(e.2,e.1,0)::qv l
def Lb (d:bs):List (Int×Int×Int):=qw d.first 0 d.fields++(d.ep++qv d.eqs)
def CI (g:cd):Int→List dr→Bool
 | _,[]=>true
 |last,t::l=>decide (last<t.state)&&(decide (1≤t.JH)&&(decide (t.JH≤1000)&&(decide (0≤t.wq)&&(decide (t.wq<g.cy.length)&&(match g.cy[t.wq.toNat]? with
  |some e=>decide (e.hM=t.state)&& !e.again
  |none=>false)&&CI g t.state l))))
def CH (g:cd):Bool:=CI g (-1) g.fH
def rp (back:Bool) (e:cD):Int×Int:=if back=true then (e.dst,e.hM) else (e.hM,e.dst)
def ub (h:Int) (back:Bool):List cD→List Int×List Int→List Int×List Int
 |[],s=>s
 |e::es,s=>if (rp back e).1=h∧s.1.getD (rp back e).2.toNat 0<0 then ub h back es (s.1.set (rp back e).2.toNat (s.1.getD (rp back e).1.toNat 0+1),s.2++[(rp back e).2]) else ub h back es s
def yz (es:List cD) (back:Bool):Nat→List Int→List Int→List Int
 |0,out,_=>out
 | _+1,out,[]=>out
 |n+1,out,h::todo=>yz es back n (ub h back es (out,h::todo)).1 (ub h back es (out,h::todo)).2.tail
def sT (g:cd) (hM:Int) (back:Bool):List Int:=yz g.cy back (2*g.iI.toNat+2) ((List.replicate g.iI.toNat (-1)).set hM.toNat 0) [hM]
def s6 (g:cd):Bool:=Cc g&&(wS g&&(zk g.decls&&(Cl g&&(CH g&&(!(sT g g.start false).contains (-1)&& !(sT g g.fin true).contains (-1))))))
def qQ (l:List Int):Nat:=l.countP (fun x=>decide (x<0))
end Go.aO
namespace Go.aO
open Go Go.aO.T.N
inductive cY (α:Type) where
 |ok (a:α)
 |err (n:List UInt8) (e:Int)
def cY.bind {α β:Type}:cY α→(α→cY β)→cY β
 | .ok a,f=>f a
 | .err n e,_=> .err n e
def gh (b:Bool) (n:List UInt8) (e:Int):cY Unit:=if b=true then .ok () else .err n e
theorem cY.bind_assoc {α β bg6:Type}(r:cY α) (f:α→cY β) (g:β→cY bg6):(r.bind f).bind g=r.bind fun a=>(f a).bind g:=by cases r<;>rfl
structure dL where
 x:b3
 g:cd
 bM:Int
 ps:Option (List (List UInt8×Int))
def dL.look (ck:dL) (n:List UInt8):Option Int:=match ck.ps with
 |none=>none
 |some m=>k9 n m
def CQ:ba:=⟨[],0,0,0,0,0,[]⟩
def varOf (l:List ba) (n:List UInt8):Option ba:=l.find? fun v=>decide (v.name=n)
def qP (ck:dL) (n:List UInt8):cY Int:=match ck.look n with
 |some k=> .ok k
 |none=>match varOf ck.x.vars n with
  |some v=> .ok v.ig
  |none=> .err n 10
def xt (aT:List Int) (k:Int):Bool:=aT.all fun x=>decide (x=k)
def qm (ck:dL) (k:Int) (o m:List UInt8) (aT:List Int):cY Int:=
 if k=2 then .ok 2
 else if k=3 then qP ck m
 else if k=4 then (gh (xt aT 2) [108,101,110] 11).bind fun _=> .ok 1
 else if k=5 then (gh (xt aT 1) o 11).bind fun _=> .ok 1
 else if k=6 then (if o≠[43]∧o≠[61,61]∧o≠[33,61] then (gh (xt aT 1) o 11).bind fun _=> .ok 1
  else (gh (xt aT (aT.headD 0)) o 11).bind fun _=> .ok (if o=[43] then aT.headD 0 else 1))
 else .ok 1
mutual
def kk (ck:dL):al→cY Int
 | .mk k o m t n l=>(k8 ck l).bind fun aT=>qm ck k o m aT
def k8 (ck:dL):List al→cY (List Int)
 |[]=> .ok []
 |x::l=>(kk ck x).bind fun a=>(k8 ck l).bind fun bQ=> .ok (a::bQ)
end
def rf (ck:dL) (n:List UInt8) (x:al):cY Unit:=
 (gh ((ck.look n).isSome||(varOf ck.x.vars n).isSome) n 10).bind fun _=>(gh (!(ck.look n).isSome) n 11).bind fun _=>(kk ck x).bind fun k=>gh (decide (k=((varOf ck.x.vars n).getD CQ).ig)) n 11
mutual
def o6 (ck:dL):ai→cY Unit
 | .mk k m x t a b=>if k=1 then rf ck m x
  else (if k=2 then (kk ck x).bind fun q=>gh (decide (q=1)) [105,102] 11 else if k=3 then (kk ck x).bind fun q=>gh (decide (q=1)) [119,104,105,108,101] 11 else .ok ()).bind fun _=>(jN ck a).bind fun _=>jN ck b
def jN (ck:dL):List ai→cY Unit
 |[]=> .ok ()
 |x::l=>(o6 ck x).bind fun _=>jN ck l
end
def CO (v:ba):Bool:=if v.fg=1 then decide (-1000≤v.n)&&(decide (v.n≤1000)&&decide (v.s=[])) else if v.fg=2 then decide (v.n=0)&&(decide (v.s.length≤40)&&v.s.all fk) else false
def Ce (v:ba):Int:=if v.fg=1 then v.n else if v.fg=2 then (v.s.length:Int) else 0
def zr (v:ba):Bool:=pG v.ig v.cJ v.ad&&(CO v&&(decide (v.ig=v.fg)&&(decide (v.cJ≤Ce v)&&decide (Ce v≤v.ad))))
def q1:List ba→List ba→cY Unit
 | _,[]=> .ok ()
 |ahead,v::l=>(gh (!ahead.any fun w=>decide (w.name=v.name)) v.name 9).bind fun _=>(gh (pG v.ig v.cJ v.ad&&zr v) v.name 11).bind fun _=>q1 (ahead++[v]) l
def eJ (l:List (List UInt8)) (s:List UInt8):Int:=qG l s l.length 0
def jn (g:cd) (n:List UInt8):Int:=dt (fun d=> !decide (d.name=n)) g.decls 0
def qL (ck:dL) (path peer:List UInt8) (va:Bool):cY bs:=
 (gh (decide (0≤jn ck.g path)) path 10).bind fun _=>(gh (decide (0≤eJ ck.g.cC peer)) peer 12).bind fun _=>
  (gh (ck.g.cy.any fun e=>decide (e.oO=(if va=true then eJ ck.g.cC peer else ck.bM))&&(decide (e.ri=(if va=true then ck.bM else eJ ck.g.cC peer))&&decide (e.re=jn ck.g path))) path 8).bind fun _=>
   match ck.g.decls[(jn ck.g path).toNat]? with
   |some d=> .ok d
   |none=> .err [] 0
def oE (vars:List ba):List (List UInt8×Int)→List (List UInt8)→List Fd→cY (List (List UInt8×Int))
 |acc,n::ps,f::b2=>(gh (!(varOf vars n).isSome&& !(k9 n acc).isSome) n 9).bind fun _=>oE vars (acc++[(n,f.kind)]) ps b2
 |acc,_,_=> .ok acc
def ki (ck:dL) (ahead:List bL) (h:bL):cY Unit:=
 (qL ck h.c7 h.peer true).bind fun d=>(gh (!ahead.any fun o=>decide (o.c7=h.c7)&&decide (o.peer=h.peer)) h.c7 9).bind fun _=>
  (gh (decide (h.ps.length=d.fields.length)) h.c7 11).bind fun _=>(oE ck.x.vars [] h.ps d.fields).bind fun m=>jN {ck with ps:=some m} h.body
def lT (ck:dL) (c7:List UInt8):List al→List Fd→cY Unit
 |x::l,f::b2=>(kk ck x).bind fun k=>(gh (decide (k=f.kind)) c7 11).bind fun _=>lT ck c7 l b2
 | _,_=> .ok ()
def nN (ck:dL):List al→cY Unit
 |x::l=>(kk ck x).bind fun k=>(gh (decide (k=1)) [119,104,101,114,101] 11).bind fun _=>nN ck l
 |[]=> .ok ()
def nD (ck:dL) (o:cf):cY Unit:=
 (qL ck o.c7 o.peer false).bind fun d=>(gh (decide (o.args.length=d.fields.length)) o.c7 11).bind fun _=>(lT ck o.c7 o.args d.fields).bind fun _=>nN ck o.dk
def mP (ck:dL):List bL→List bL→cY Unit
 | _,[]=> .ok ()
 |ahead,h::l=>(ki ck ahead h).bind fun _=>mP ck (ahead++[h]) l
def nE (ck:dL):List cf→cY Unit
 |[]=> .ok ()
 |o::l=>(nD ck o).bind fun _=>nE ck l
def pE (x:b3) (g:cd):cY Unit:=
 (gh (decide (x.gJ=g.name)) x.gJ 10).bind fun _=>(gh (decide (0≤eJ g.cC x.bM)) x.bM 12).bind fun _=>
  (q1 [] x.vars).bind fun _=>(mP ⟨x,g,max (eJ g.cC x.bM) 0,none⟩ [] x.hs).bind fun _=>nE ⟨x,g,max (eJ g.cC x.bM) 0,none⟩ x.os
def kf (x:b3) (g:cd):List UInt8×Int:=
 if (n3 x&&s6 g)=true then (match pE x g with
  | .ok _=>([],0)
  | .err n e=>(n,e)) else ([],1)
end Go.aO
namespace Go.aO
open Go Go.aO.T.N
structure bK where
  op:Int
  n:Int
  s:List UInt8
def bK.row (i:bK):List I:=[.int .i64 i.op,.int .i64 i.n,.str i.s]
structure fJ where
  vars:List ba
  ps:List (List UInt8)
  aT:List Int
def pa (l:List ba) (n:List UInt8):Int:=dt (fun v=> !decide (v.name=n)) l 0
mutual
def vC (cx:fJ):al→Bool
  | .mk k o m t n l=>if k=2 then true
    else if k=3 then (if 0≤eJ cx.ps m then decide (cx.aT.getD (eJ cx.ps m).toNat 0=2) else match cx.vars[(pa cx.vars m).toNat]? with
      |some v=>decide (v.ig=2)
      |none=>false)
    else if k=6 then decide (o=[43])&&w8 cx l
    else false
def w8 (cx:fJ):List al→Bool
  |[]=>false
  |x:: _=>vC cx x
end
def lc (o:List UInt8):Int×Bool×Bool:=
  if o=[45] then (7,false,false)
  else if o=[42] then (8,false,false)
  else if o=[47] then (9,false,false)
  else if o=[37] then (10,false,false)
  else if o=[38,38] then (15,false,false)
  else if o=[124,124] then (16,false,false)
  else if o=[61,61] then (12,false,false)
  else if o=[33,61] then (12,false,true)
  else if o=[60] then (13,false,false)
  else if o=[62,61] then (13,false,true)
  else if o=[62] then (13,true,false)
  else if o=[60,61] then (13,true,true)
  else (6,false,false)
def ins (op n:Int):bK:=⟨op,n,[]⟩
def ml (o:List UInt8) (qZ:Bool):List (List bK)→List bK
  |a::b:: _=>(if (lc o).2.1=true then b++a else a++b)++(ins (if o=[43]∧qZ=true then 17 else (lc o).1) 0::if (lc o).2.2=true then[ins 14 0] else[])
  | _=>[]
mutual
def c3 (cx:fJ):al→List bK
  | .mk k o m t n l=>if k=1 then[ins 1 n]
    else if k=2 then[⟨2,0,t⟩]
    else if k=3 then[if 0≤eJ cx.ps m then ins 4 (eJ cx.ps m) else ins 3 (pa cx.vars m)]
    else if k=4 then (fM cx l).headD []++[ins 18 0]
    else if k=5 then (fM cx l).headD []++[ins (if o=[45] then 11 else 14) 0]
    else ml o (w8 cx l) (fM cx l)
def fM (cx:fJ):List al→List (List bK)
  |[]=>[]
  |x::l=>c3 cx x::fM cx l
end
mutual
def hT (cx:fJ):Nat→ai→List bK
  |p,.mk k m x t a b=>if k=1 then c3 cx x++[ins 5 (pa cx.vars m)]
   else if k=2 then (match b with
     |[]=>c3 cx x++(ins 20 ((p+(c3 cx x).length+1+(dS cx (p+(c3 cx x).length+1) a).length:Nat):Int)::dS cx (p+(c3 cx x).length+1) a)
     | _:: _=>c3 cx x++(ins 20 ((p+(c3 cx x).length+1+(dS cx (p+(c3 cx x).length+1) a).length+1:Nat):Int)::(dS cx (p+(c3 cx x).length+1) a++
        (ins 19 ((p+(c3 cx x).length+1+(dS cx (p+(c3 cx x).length+1) a).length+1+(dS cx (p+(c3 cx x).length+1+(dS cx (p+(c3 cx x).length+1) a).length+1) b).length:Nat):Int)::dS cx (p+(c3 cx x).length+1+(dS cx (p+(c3 cx x).length+1) a).length+1) b))))
   else ins 21 t::(c3 cx x++(ins 20 ((p+1+(c3 cx x).length+1+(dS cx (p+1+(c3 cx x).length+1) a).length+1:Nat):Int)::(dS cx (p+1+(c3 cx x).length+1) a++[ins 22 ((p+1:Nat):Int),ins 23 0])))
def dS (cx:fJ):Nat→List ai→List bK
  | _,[]=>[]
  |p,x::l=>hT cx p x++dS cx (p+(hT cx p x).length) l
end
mutual
def AY:Nat→ai→Bool
  |d,.mk k m x t a b=>if k=1 then false else if k=2 then gO d a||gO d b else decide (d=4)||gO (d+1) a
def gO:Nat→List ai→Bool
  | _,[]=>false
  |d,x::l=>AY d x||gO d l
end
def ly (x:b3) (aT:List Int) (p:Nat) (h:bL):List bK:=dS ⟨x.vars,h.ps,aT⟩ p h.body++[ins 24 0]
def kl (g:cd) (c7:List UInt8):List Int:=match g.decls[(jn g c7).toNat]? with
  |some d=>d.fields.map Fd.kind
  |none=>[]
def dM (x:b3) (g:cd):Nat→List bL→List (Int×Int×Int)×List bK×Bool
  | _,[]=>([],[],false)
  |p,h::l=>let q:=ly x (kl g h.c7) p h; let r:=dM x g (p+q.length) l
   ((eJ g.cC h.peer,jn g h.c7,(p:Int))::r.1,q++r.2.1,gO 0 h.body||r.2.2)
def og (cx:fJ) (p:Nat):List al→Int×List bK
  |[]=>(-1,[])
  |x:: _=>((p:Int),c3 cx x++[ins 24 0])
def hq (x:b3) (g:cd):Nat→List cf→List (Int×Int×Int×Int)×List bK
  | _,[]=>([],[])
  |p,o::l=>let w:=og ⟨x.vars,[],[]⟩ p o.dk; let q:=(fM ⟨x.vars,[],[]⟩ o.args).flatten++[ins 24 0]; let r:=hq x g (p+w.2.length+q.length) l
   ((eJ g.cC o.peer,jn g o.c7,w.1,((p+w.2.length:Nat):Int))::r.1,w.2++q++r.2)
structure gL where
  name:List UInt8
  bM:Int
  vars:List ba
  hs:List (Int×Int×Int)
  os:List (Int×Int×Int×Int)
  code:List bK
def dI (h:Int×Int×Int):List I:=[.int .i64 h.1,.int .i64 h.2.1,.int .i64 h.2.2]
def eI (h:Int×Int×Int×Int):List I:=[.int .i64 h.1,.int .i64 h.2.1,.int .i64 h.2.2.1,.int .i64 h.2.2.2]
def gL.cells (p:gL):List I:=[.str p.name,.int .i64 p.bM,.af 7 (p.vars.map ba.row),.af 3 (p.hs.map dI),.af 4 (p.os.map eI),.af 3 (p.code.map bK.row)]
def gL.cQ (p:gL):I:= .agg p.cells
def EL:gL:=⟨[],0,[],[],[],[]⟩
def iZ (x:b3) (g:cd):List bK:=
  let c:=(dM x g 0 x.hs).2.1++(hq x g (dM x g 0 x.hs).2.1.length x.os).2
  if c.length=0 then[ins 24 0] else c
def jy (x:b3) (g:cd):gL×Int:=
  if (kf x g).2=0 then
    (if 1000<(iZ x g).length∨(dM x g 0 x.hs).2.2=true then (EL,6)
     else (⟨x.name,eJ g.cC x.bM,x.vars,(dM x g 0 x.hs).1,(hq x g (dM x g 0 x.hs).2.1.length x.os).1,iZ x g⟩,0))
  else (EL,1)
end Go.aO
namespace Go.aO.T.N
open Go Go.aO Go.Proofs Go.RowKit
set_option maxRecDepth 100000
attribute [local irreducible] Go.aO.av Go.aO.au Go.aO.aY
section
attribute [local go_sem] ba.row db eH dp b6
def cH (n:Int):List I:=[.int .i64 n]
theorem eE (l:List Int):eN (l.map cH)=true:=lW (fun _=>rfl) l
theorem et (l:List Fd):eN (l.map Fd.row)=true:=lW (fun _=>rfl) l
theorem er (l:List (Int×Int×Int)):eN (l.map dn)=true:=lW (fun _=>rfl) l
theorem eG (l:List (Int×Int)):eN (l.map dz)=true:=lW (fun _=>rfl) l
theorem ds (l:List cD):eN (l.map cD.row)=true:=lW (fun _=>rfl) l
theorem dw (l:List dr):eN (l.map dr.row)=true:=lW (fun _=>rfl) l
theorem df (l:List bs):eN (l.map bs.row)=true:=lW (fun d=>by simp only[bs.row,b7,I.flat,et,er,eG,Bool.and_self]) l
attribute [local go_sem] eE et er eG ds dw df cH Fd.row dn dz cD.row dr.row bs.row
theorem vt {α:Type}(g:α→Bool) (l:List α):decide (0≤dt (fun v=> !g v) l 0)=l.any g:=by
 rw[vs]
 induction l with
 |nil=>rfl
 |cons x l bB=>
  simp only[List.all_cons,List.any_cons,←bB]
  cases g x<;>simp
section
variable {dd:Program}{anns:List I}{l:List bY}{env:Env}{K:Env→aQ→Prop}{Rp:I→aQ→Prop}{f:FuncId}{args:List aJ}{x:aJ}{a v:I}{d:Nat}{T:TypeId}{cs:List I}
theorem D.yT (hf:di dd f=true) (hb:ed 1 0 cs=true) (ac:fw ⟨[0],[]⟩ cs=cs) (tO:a.flat=true) (h:aY dd f [a,.ptr 0 0] (aQ.of 1 0 [(0,T,cs)] []) (dR v [(0,T,cs)] [])) (aw:au dd anns l ((d,v)::env) (aQ.of 1 0 [(0,T,cs)] []) K Rp)
  (ab:bp env x= .fn f [.ptr 0 0]:=by simp (disch:=omega) only[go_sem,simprocAttr]<;>with_reducible rfl) (aL:args.map (bp env)=[a]:=by simp (disch:=omega) only[go_sem,simprocAttr]<;>with_reducible rfl) (ae:v.flat=true:=by rfl):au dd anns (⟨some d,none,.gT x args⟩::l) env (aQ.of 1 0 [(0,T,cs)] []) K Rp:=by
 have Bp:fA 1 0 [(0,T,cs)]=true:=by simp only[fA,hb,Bool.and_true]; rfl
 have e:=aY.p2 (c:=aQ.of 1 0 [(0,T,cs)] []) ⟨[0],[]⟩ h rfl rfl rfl ⟨by simp only[tM,zR,hU,beq_self_eq_true,cond_true,ac],trivial⟩ trivial (by simp only[ed,tJ a tO,Bp,I.dW,fB,Bool.and_true]; rfl) (by simp only[Bp,tJ v ae,fB,Bool.and_true]) rfl
 rw[tK v ae]at e
 have hu:(aQ.of 1 0 [(0,T,cs)] []).li ⟨[0],[]⟩ [(0,T,cs)] []=aQ.of 1 0 [(0,T,cs)] []:=by
  rw[oC]
  simp only[rL,rM,tM,ac,List.filter_cons,List.filter_nil,List.contains_cons,List.contains_nil,beq_self_eq_true,Bool.true_or,if_true,qW,rN,o5,qq,qs,cond_true]
 rw[hu,show fw ⟨[0],[]⟩ [a,.ptr 0 0]=[a,.ptr 0 0] by simp only[fw,tK a tO,I.fh,tM]]at e
 exact au.Kd rfl ab hf e (by rw[aL]; rfl) aw
theorem D.yU {size:Nat}{g:FuncId}{rows:List (List I)}(hb:ed 1 0 cs=true) (ac:fw ⟨[0],[]⟩ cs=cs) (tO:eN rows=true) (h:aY dd f [.af size rows,.fn g [.ptr 0 0]] (aQ.of 1 0 [(0,T,cs)] []) (dR v [(0,T,cs)] [])) (aw:au dd anns l ((d,v)::env) (aQ.of 1 0 [(0,T,cs)] []) K Rp)
  (aL:args.map (bp env)=[.af size rows,.fn g [.ptr 0 0]]:=by simp (disch:=omega) only[go_sem,simprocAttr]<;>with_reducible rfl) (ae:v.flat=true:=by rfl):au dd anns (⟨some d,none,.call f args⟩::l) env (aQ.of 1 0 [(0,T,cs)] []) K Rp:=by
 have Bp:fA 1 0 [(0,T,cs)]=true:=by simp only[fA,hb,Bool.and_true]; rfl
 have e:=aY.p2 (c:=aQ.of 1 0 [(0,T,cs)] []) ⟨[0],[]⟩ h rfl rfl rfl ⟨by simp only[tM,zR,hU,beq_self_eq_true,cond_true,ac],trivial⟩ trivial (by simp only[ed,Bp,I.dW,tO,fB,Bool.and_true]; rfl) (by simp only[Bp,tJ v ae,fB,Bool.and_true]) rfl
 rw[tK v ae]at e
 have hu:(aQ.of 1 0 [(0,T,cs)] []).li ⟨[0],[]⟩ [(0,T,cs)] []=aQ.of 1 0 [(0,T,cs)] []:=by
  rw[oC]
  simp only[rL,rM,tM,ac,List.filter_cons,List.filter_nil,List.contains_cons,List.contains_nil,beq_self_eq_true,Bool.true_or,if_true,qW,rN,o5,qq,qs,cond_true]
 rw[hu,show fw ⟨[0],[]⟩ [.af size rows,.fn g [.ptr 0 0]]=[.af size rows,.fn g [.ptr 0 0]] by simp only[fw,I.fh,tM]]at e
 exact au.uB rfl e aL aw
end
theorem J4 {f:FuncId}{T:TypeId}{cs:List I}(hf:di Tryz.prog f=true) (hb:ed 1 0 cs=true) (ac:fw ⟨[0],[]⟩ cs=cs) (g:ba→Bool) (l:List ba) (aC:l.length≤1000000000000) (h: ∀v∈l,aY Tryz.prog f [.agg (ba.row v),.ptr 0 0] (aQ.of 1 0 [(0,T,cs)] []) (dR (.bool (g v)) [(0,T,cs)] [])):aY Tryz.prog 261 [.af 7 (l.map ba.row),.fn f [.ptr 0 0]] (aQ.of 1 0 [(0,T,cs)] []) (dR (.int .i64 (dt (fun v=> !g v) l 0)) [(0,T,cs)] []):=by
 refine aY.intro bb Tryz.func261 Lu ?_
 unfold GF I6
 simp(disch:=omega)only[go_sem,simprocAttr]
 refine aj ?_
 refine av.c5 (X:=Nat) 0 (fun i=>[(0,.af 7 (l.map ba.row)),(1,.fn f [.ptr 0 0]),(7,.int .i64 ((l.map ba.row).length:Int)),(8,.int .i64 (i:Int))]) (fun _=>[(0,T,cs)]) (fun _=>[]) (fun i=>i≤l.length∧dt (fun v=> !g v) (l.drop i) i=dt (fun v=> !g v) l 0) (fun i=>l.length-i) ⟨Nat.zero_le _,rfl⟩ ⟨rfl,rfl,rfl,rfl,trivial⟩ ⟨rfl,trivial⟩ trivial ?_
 rintro i ⟨ad,aG⟩
 try simp only at ad aG ⊢
 cases ae:l[i]? with
 |some v=>
  have cB:=(List.getElem?_eq_some_iff.1 ae).1
  rw[fY ae]at aG
  simp only[dt]at aG
  have d1:(i:Int)<((l.map ba.row).length:Int):=by rw[List.length_map]; omega
  have e:=h v (List.mem_of_getElem? ae)
  generalize g v=b at e aG
  clear h
  (have ah:=d1;refine bE ?_;clear ah)
  refine D.yT hf hb ac (rfl) e ?_
  cases b
  ·refine aj ?_
   refine av.dO (i+1) ⟨by omega,aG⟩ ⟨rfl,rfl,rfl,by simp only[Int.natCast_add]; rfl,trivial⟩ ⟨rfl,trivial⟩ trivial rfl rfl (by show l.length-(i+1)<l.length-i; omega)
  ·refine aj ?_
   refine D.r ?_
   exact⟨by rw[←aG]; rfl,⟨rfl,trivial⟩,trivial⟩
 |none=>
  have cg:=List.getElem?_eq_none_iff.1 ae
  have d1: ¬(i:Int)<((l.map ba.row).length:Int):=by rw[List.length_map]; omega
  rw[List.drop_eq_nil_of_le cg]at aG
  (have ah:=d1;refine bE ?_;clear ah)
  refine D.r ?_
  exact⟨by rw[←aG]; rfl,⟨rfl,trivial⟩,trivial⟩
theorem a44 {f:FuncId}{T:TypeId}{cs:List I}(hf:di Tryz.prog f=true) (hb:ed 1 0 cs=true) (ac:fw ⟨[0],[]⟩ cs=cs) (g:ba→Bool) (l:List ba) (aC:l.length≤1000000000000) (h: ∀v∈l,aY Tryz.prog f [.agg (ba.row v),.ptr 0 0] (aQ.of 1 0 [(0,T,cs)] []) (dR (.bool (g v)) [(0,T,cs)] [])):aY Tryz.prog 162 [.af 7 (l.map ba.row),.fn f [.ptr 0 0]] (aQ.of 1 0 [(0,T,cs)] []) (dR (.bool (l.any g)) [(0,T,cs)] []):=by
 have e:=J4 hf hb ac g l aC h
 rw[←vt]
 generalize dt (fun v=> !g v) l 0=z at e ⊢
 clear h
 refine aY.intro bb Tryz.func162 Lq ?_
 unfold Gy I2
 simp(disch:=omega)only[go_sem,simprocAttr]
 refine aj ?_
 refine D.yU hb ac (db l) e ?_
 refine aj ?_
 refine D.r ?_
 exact⟨rfl,⟨rfl,trivial⟩,trivial⟩
theorem a48 {f:FuncId}{T:TypeId}{cs:List I}(hf:di Tryz.prog f=true) (hb:ed 1 0 cs=true) (ac:fw ⟨[0],[]⟩ cs=cs) (g:bL→Bool) (l:List bL) (aC:l.length≤1000000000000) (h: ∀v∈l,aY Tryz.prog f [.agg (bL.row v),.ptr 0 0] (aQ.of 1 0 [(0,T,cs)] []) (dR (.bool (g v)) [(0,T,cs)] [])):aY Tryz.prog 183 [.af 4 (l.map bL.row),.fn f [.ptr 0 0]] (aQ.of 1 0 [(0,T,cs)] []) (dR (.int .i64 (dt (fun v=> !g v) l 0)) [(0,T,cs)] []):=by
 refine aY.intro bb Tryz.func183 FP ?_
 unfold DD EV
 simp(disch:=omega)only[go_sem,simprocAttr]
 refine aj ?_
 refine av.c5 (X:=Nat) 0 (fun i=>[(0,.af 4 (l.map bL.row)),(1,.fn f [.ptr 0 0]),(7,.int .i64 ((l.map bL.row).length:Int)),(8,.int .i64 (i:Int))]) (fun _=>[(0,T,cs)]) (fun _=>[]) (fun i=>i≤l.length∧dt (fun v=> !g v) (l.drop i) i=dt (fun v=> !g v) l 0) (fun i=>l.length-i) ⟨Nat.zero_le _,rfl⟩ ⟨rfl,rfl,rfl,rfl,trivial⟩ ⟨rfl,trivial⟩ trivial ?_
 rintro i ⟨ad,aG⟩
 try simp only at ad aG ⊢
 cases ae:l[i]? with
 |some v=>
  have cB:=(List.getElem?_eq_some_iff.1 ae).1
  rw[fY ae]at aG
  simp only[dt]at aG
  have d1:(i:Int)<((l.map bL.row).length:Int):=by rw[List.length_map]; omega
  have e:=h v (List.mem_of_getElem? ae)
  generalize g v=b at e aG
  clear h
  (have ah:=d1;refine bE ?_;clear ah)
  refine D.yT hf hb ac (by simp only[I.flat,bL.row,b7,ai.nG,ai.ch,cR,Bool.and_self]) e ?_
  cases b
  ·refine aj ?_
   refine av.dO (i+1) ⟨by omega,aG⟩ ⟨rfl,rfl,rfl,by simp only[Int.natCast_add]; rfl,trivial⟩ ⟨rfl,trivial⟩ trivial rfl rfl (by show l.length-(i+1)<l.length-i; omega)
  ·refine aj ?_
   refine D.r ?_
   exact⟨by rw[←aG]; rfl,⟨rfl,trivial⟩,trivial⟩
 |none=>
  have cg:=List.getElem?_eq_none_iff.1 ae
  have d1: ¬(i:Int)<((l.map bL.row).length:Int):=by rw[List.length_map]; omega
  rw[List.drop_eq_nil_of_le cg]at aG
  (have ah:=d1;refine bE ?_;clear ah)
  refine D.r ?_
  exact⟨by rw[←aG]; rfl,⟨rfl,trivial⟩,trivial⟩
theorem ba3 {f:FuncId}{T:TypeId}{cs:List I}(hf:di Tryz.prog f=true) (hb:ed 1 0 cs=true) (ac:fw ⟨[0],[]⟩ cs=cs) (g:bL→Bool) (l:List bL) (aC:l.length≤1000000000000) (h: ∀v∈l,aY Tryz.prog f [.agg (bL.row v),.ptr 0 0] (aQ.of 1 0 [(0,T,cs)] []) (dR (.bool (g v)) [(0,T,cs)] [])):aY Tryz.prog 96 [.af 4 (l.map bL.row),.fn f [.ptr 0 0]] (aQ.of 1 0 [(0,T,cs)] []) (dR (.bool (l.any g)) [(0,T,cs)] []):=by
 have e:=a48 hf hb ac g l aC h
 rw[←vt]
 generalize dt (fun v=> !g v) l 0=z at e ⊢
 clear h
 refine aY.intro bb Tryz.func96 FW ?_
 unfold zq E1
 simp(disch:=omega)only[go_sem,simprocAttr]
 refine aj ?_
 refine D.yU hb ac (dp l) e ?_
 refine aj ?_
 refine D.r ?_
 exact⟨rfl,⟨rfl,trivial⟩,trivial⟩
theorem JZ {f:FuncId}{T:TypeId}{cs:List I}(hf:di Tryz.prog f=true) (hb:ed 1 0 cs=true) (ac:fw ⟨[0],[]⟩ cs=cs) (g:bs→Bool) (l:List bs) (aC:l.length≤1000000000000) (h: ∀v∈l,aY Tryz.prog f [.agg (bs.row v),.ptr 0 0] (aQ.of 1 0 [(0,T,cs)] []) (dR (.bool (g v)) [(0,T,cs)] [])):aY Tryz.prog 139 [.af 5 (l.map bs.row),.fn f [.ptr 0 0]] (aQ.of 1 0 [(0,T,cs)] []) (dR (.int .i64 (dt (fun v=> !g v) l 0)) [(0,T,cs)] []):=by
 refine aY.intro bb Tryz.func139 Xb ?_
 unfold MG SC
 simp(disch:=omega)only[go_sem,simprocAttr]
 refine aj ?_
 refine av.c5 (X:=Nat) 0 (fun i=>[(0,.af 5 (l.map bs.row)),(1,.fn f [.ptr 0 0]),(7,.int .i64 ((l.map bs.row).length:Int)),(8,.int .i64 (i:Int))]) (fun _=>[(0,T,cs)]) (fun _=>[]) (fun i=>i≤l.length∧dt (fun v=> !g v) (l.drop i) i=dt (fun v=> !g v) l 0) (fun i=>l.length-i) ⟨Nat.zero_le _,rfl⟩ ⟨rfl,rfl,rfl,rfl,trivial⟩ ⟨rfl,trivial⟩ trivial ?_
 rintro i ⟨ad,aG⟩
 try simp only at ad aG ⊢
 cases ae:l[i]? with
 |some v=>
  have cB:=(List.getElem?_eq_some_iff.1 ae).1
  rw[fY ae]at aG
  simp only[dt]at aG
  have d1:(i:Int)<((l.map bs.row).length:Int):=by rw[List.length_map]; omega
  have e:=h v (List.mem_of_getElem? ae)
  generalize g v=b at e aG
  clear h
  (have ah:=d1;refine bE ?_;clear ah)
  refine D.yT hf hb ac (by simp only[I.flat,bs.row,b7,et,er,eG,Bool.and_self]) e ?_
  cases b
  ·refine aj ?_
   refine av.dO (i+1) ⟨by omega,aG⟩ ⟨rfl,rfl,rfl,by simp only[Int.natCast_add]; rfl,trivial⟩ ⟨rfl,trivial⟩ trivial rfl rfl (by show l.length-(i+1)<l.length-i; omega)
  ·refine aj ?_
   refine D.r ?_
   exact⟨by rw[←aG]; rfl,⟨rfl,trivial⟩,trivial⟩
 |none=>
  have cg:=List.getElem?_eq_none_iff.1 ae
  have d1: ¬(i:Int)<((l.map bs.row).length:Int):=by rw[List.length_map]; omega
  rw[List.drop_eq_nil_of_le cg]at aG
  (have ah:=d1;refine bE ?_;clear ah)
  refine D.r ?_
  exact⟨by rw[←aG]; rfl,⟨rfl,trivial⟩,trivial⟩
theorem a84 {f:FuncId}{T:TypeId}{cs:List I}(hf:di Tryz.prog f=true) (hb:ed 1 0 cs=true) (ac:fw ⟨[0],[]⟩ cs=cs) (g:bs→Bool) (l:List bs) (aC:l.length≤1000000000000) (h: ∀v∈l,aY Tryz.prog f [.agg (bs.row v),.ptr 0 0] (aQ.of 1 0 [(0,T,cs)] []) (dR (.bool (g v)) [(0,T,cs)] [])):aY Tryz.prog 375 [.af 5 (l.map bs.row),.fn f [.ptr 0 0]] (aQ.of 1 0 [(0,T,cs)] []) (dR (.bool (l.any g)) [(0,T,cs)] []):=by
 have e:=JZ hf hb ac g l aC h
 rw[←vt]
 generalize dt (fun v=> !g v) l 0=z at e ⊢
 clear h
 refine aY.intro bb Tryz.func375 YI ?_
 unfold N3 Uc
 simp(disch:=omega)only[go_sem,simprocAttr]
 refine aj ?_
 refine D.yU hb ac (df l) e ?_
 refine aj ?_
 refine D.r ?_
 exact⟨rfl,⟨rfl,trivial⟩,trivial⟩
theorem a81 {f:FuncId}{T:TypeId}{cs:List I}(hf:di Tryz.prog f=true) (hb:ed 1 0 cs=true) (ac:fw ⟨[0],[]⟩ cs=cs) (g:cD→Bool) (l:List cD) (aC:l.length≤1000000000000) (h: ∀v∈l,aY Tryz.prog f [.agg (cD.row v),.ptr 0 0] (aQ.of 1 0 [(0,T,cs)] []) (dR (.bool (g v)) [(0,T,cs)] [])):aY Tryz.prog 342 [.af 6 (l.map cD.row),.fn f [.ptr 0 0]] (aQ.of 1 0 [(0,T,cs)] []) (dR (.int .i64 (dt (fun v=> !g v) l 0)) [(0,T,cs)] []):=by
 refine aY.intro bb Tryz.func342 YB ?_
 unfold NY T5
 simp(disch:=omega)only[go_sem,simprocAttr]
 refine aj ?_
 refine av.c5 (X:=Nat) 0 (fun i=>[(0,.af 6 (l.map cD.row)),(1,.fn f [.ptr 0 0]),(7,.int .i64 ((l.map cD.row).length:Int)),(8,.int .i64 (i:Int))]) (fun _=>[(0,T,cs)]) (fun _=>[]) (fun i=>i≤l.length∧dt (fun v=> !g v) (l.drop i) i=dt (fun v=> !g v) l 0) (fun i=>l.length-i) ⟨Nat.zero_le _,rfl⟩ ⟨rfl,rfl,rfl,rfl,trivial⟩ ⟨rfl,trivial⟩ trivial ?_
 rintro i ⟨ad,aG⟩
 try simp only at ad aG ⊢
 cases ae:l[i]? with
 |some v=>
  have cB:=(List.getElem?_eq_some_iff.1 ae).1
  rw[fY ae]at aG
  simp only[dt]at aG
  have d1:(i:Int)<((l.map cD.row).length:Int):=by rw[List.length_map]; omega
  have e:=h v (List.mem_of_getElem? ae)
  generalize g v=b at e aG
  clear h
  (have ah:=d1;refine bE ?_;clear ah)
  refine D.yT hf hb ac (rfl) e ?_
  cases b
  ·refine aj ?_
   refine av.dO (i+1) ⟨by omega,aG⟩ ⟨rfl,rfl,rfl,by simp only[Int.natCast_add]; rfl,trivial⟩ ⟨rfl,trivial⟩ trivial rfl rfl (by show l.length-(i+1)<l.length-i; omega)
  ·refine aj ?_
   refine D.r ?_
   exact⟨by rw[←aG]; rfl,⟨rfl,trivial⟩,trivial⟩
 |none=>
  have cg:=List.getElem?_eq_none_iff.1 ae
  have d1: ¬(i:Int)<((l.map cD.row).length:Int):=by rw[List.length_map]; omega
  rw[List.drop_eq_nil_of_le cg]at aG
  (have ah:=d1;refine bE ?_;clear ah)
  refine D.r ?_
  exact⟨by rw[←aG]; rfl,⟨rfl,trivial⟩,trivial⟩
theorem a62 {f:FuncId}{T:TypeId}{cs:List I}(hf:di Tryz.prog f=true) (hb:ed 1 0 cs=true) (ac:fw ⟨[0],[]⟩ cs=cs) (g:cD→Bool) (l:List cD) (aC:l.length≤1000000000000) (h: ∀v∈l,aY Tryz.prog f [.agg (cD.row v),.ptr 0 0] (aQ.of 1 0 [(0,T,cs)] []) (dR (.bool (g v)) [(0,T,cs)] [])):aY Tryz.prog 263 [.af 6 (l.map cD.row),.fn f [.ptr 0 0]] (aQ.of 1 0 [(0,T,cs)] []) (dR (.bool (l.any g)) [(0,T,cs)] []):=by
 have e:=a81 hf hb ac g l aC h
 rw[←vt]
 generalize dt (fun v=> !g v) l 0=z at e ⊢
 clear h
 refine aY.intro bb Tryz.func263 X5 ?_
 unfold Nw Tx
 simp(disch:=omega)only[go_sem,simprocAttr]
 refine aj ?_
 refine D.yU hb ac (ds l) e ?_
 refine aj ?_
 refine D.r ?_
 exact⟨rfl,⟨rfl,trivial⟩,trivial⟩
theorem a94 {f:FuncId}{T:TypeId}{cs:List I}(hf:di Tryz.prog f=true) (hb:ed 1 0 cs=true) (ac:fw ⟨[0],[]⟩ cs=cs) (g:Fd→Bool) (l:List Fd) (aC:l.length≤1000000000000) (h: ∀v∈l,aY Tryz.prog f [.agg (Fd.row v),.ptr 0 0] (aQ.of 1 0 [(0,T,cs)] []) (dR (.bool (g v)) [(0,T,cs)] [])):aY Tryz.prog 400 [.af 4 (l.map Fd.row),.fn f [.ptr 0 0]] (aQ.of 1 0 [(0,T,cs)] []) (dR (.int .i64 (dt (fun v=> !g v) l 0)) [(0,T,cs)] []):=by
 refine aY.intro bb Tryz.func400 YP ?_
 unfold Oa r400
 simp(disch:=omega)only[go_sem,simprocAttr]
 refine aj ?_
 refine av.c5 (X:=Nat) 0 (fun i=>[(0,.af 4 (l.map Fd.row)),(1,.fn f [.ptr 0 0]),(7,.int .i64 ((l.map Fd.row).length:Int)),(8,.int .i64 (i:Int))]) (fun _=>[(0,T,cs)]) (fun _=>[]) (fun i=>i≤l.length∧dt (fun v=> !g v) (l.drop i) i=dt (fun v=> !g v) l 0) (fun i=>l.length-i) ⟨Nat.zero_le _,rfl⟩ ⟨rfl,rfl,rfl,rfl,trivial⟩ ⟨rfl,trivial⟩ trivial ?_
 rintro i ⟨ad,aG⟩
 try simp only at ad aG ⊢
 cases ae:l[i]? with
 |some v=>
  have cB:=(List.getElem?_eq_some_iff.1 ae).1
  rw[fY ae]at aG
  simp only[dt]at aG
  have d1:(i:Int)<((l.map Fd.row).length:Int):=by rw[List.length_map]; omega
  have e:=h v (List.mem_of_getElem? ae)
  generalize g v=b at e aG
  clear h
  (have ah:=d1;refine bE ?_;clear ah)
  refine D.yT hf hb ac (rfl) e ?_
  cases b
  ·refine aj ?_
   refine av.dO (i+1) ⟨by omega,aG⟩ ⟨rfl,rfl,rfl,by simp only[Int.natCast_add]; rfl,trivial⟩ ⟨rfl,trivial⟩ trivial rfl rfl (by show l.length-(i+1)<l.length-i; omega)
  ·refine aj ?_
   refine D.r ?_
   exact⟨by rw[←aG]; rfl,⟨rfl,trivial⟩,trivial⟩
 |none=>
  have cg:=List.getElem?_eq_none_iff.1 ae
  have d1: ¬(i:Int)<((l.map Fd.row).length:Int):=by rw[List.length_map]; omega
  rw[List.drop_eq_nil_of_le cg]at aG
  (have ah:=d1;refine bE ?_;clear ah)
  refine D.r ?_
  exact⟨by rw[←aG]; rfl,⟨rfl,trivial⟩,trivial⟩
theorem a89 {f:FuncId}{T:TypeId}{cs:List I}(hf:di Tryz.prog f=true) (hb:ed 1 0 cs=true) (ac:fw ⟨[0],[]⟩ cs=cs) (g:Fd→Bool) (l:List Fd) (aC:l.length≤1000000000000) (h: ∀v∈l,aY Tryz.prog f [.agg (Fd.row v),.ptr 0 0] (aQ.of 1 0 [(0,T,cs)] []) (dR (.bool (g v)) [(0,T,cs)] [])):aY Tryz.prog 378 [.af 4 (l.map Fd.row),.fn f [.ptr 0 0]] (aQ.of 1 0 [(0,T,cs)] []) (dR (.bool (l.any g)) [(0,T,cs)] []):=by
 have e:=a94 hf hb ac g l aC h
 rw[←vt]
 generalize dt (fun v=> !g v) l 0=z at e ⊢
 clear h
 refine aY.intro bb Tryz.func378 YL ?_
 unfold N6 Uf
 simp(disch:=omega)only[go_sem,simprocAttr]
 refine aj ?_
 refine D.yU hb ac (et l) e ?_
 refine aj ?_
 refine D.r ?_
 exact⟨rfl,⟨rfl,trivial⟩,trivial⟩
theorem a82 {f:FuncId}{T:TypeId}{cs:List I}(hf:di Tryz.prog f=true) (hb:ed 1 0 cs=true) (ac:fw ⟨[0],[]⟩ cs=cs) (g:Int→Bool) (l:List Int) (aC:l.length≤1000000000000) (h: ∀v∈l,aY Tryz.prog f [.int .i64 v,.ptr 0 0] (aQ.of 1 0 [(0,T,cs)] []) (dR (.bool (g v)) [(0,T,cs)] [])):aY Tryz.prog 343 [.af 1 (l.map cH),.fn f [.ptr 0 0]] (aQ.of 1 0 [(0,T,cs)] []) (dR (.int .i64 (dt (fun v=> !g v) l 0)) [(0,T,cs)] []):=by
 refine aY.intro bb Tryz.func343 YC ?_
 unfold NZ T6
 simp(disch:=omega)only[go_sem,simprocAttr]
 refine aj ?_
 refine av.c5 (X:=Nat) 0 (fun i=>[(0,.af 1 (l.map cH)),(1,.fn f [.ptr 0 0]),(7,.int .i64 ((l.map cH).length:Int)),(8,.int .i64 (i:Int))]) (fun _=>[(0,T,cs)]) (fun _=>[]) (fun i=>i≤l.length∧dt (fun v=> !g v) (l.drop i) i=dt (fun v=> !g v) l 0) (fun i=>l.length-i) ⟨Nat.zero_le _,rfl⟩ ⟨rfl,rfl,rfl,rfl,trivial⟩ ⟨rfl,trivial⟩ trivial ?_
 rintro i ⟨ad,aG⟩
 try simp only at ad aG ⊢
 cases ae:l[i]? with
 |some v=>
  have cB:=(List.getElem?_eq_some_iff.1 ae).1
  rw[fY ae]at aG
  simp only[dt]at aG
  have d1:(i:Int)<((l.map cH).length:Int):=by rw[List.length_map]; omega
  have e:=h v (List.mem_of_getElem? ae)
  generalize g v=b at e aG
  clear h
  (have ah:=d1;refine bE ?_;clear ah)
  refine D.yT hf hb ac (rfl) e ?_
  cases b
  ·refine aj ?_
   refine av.dO (i+1) ⟨by omega,aG⟩ ⟨rfl,rfl,rfl,by simp only[Int.natCast_add]; rfl,trivial⟩ ⟨rfl,trivial⟩ trivial rfl rfl (by show l.length-(i+1)<l.length-i; omega)
  ·refine aj ?_
   refine D.r ?_
   exact⟨by rw[←aG]; rfl,⟨rfl,trivial⟩,trivial⟩
 |none=>
  have cg:=List.getElem?_eq_none_iff.1 ae
  have d1: ¬(i:Int)<((l.map cH).length:Int):=by rw[List.length_map]; omega
  rw[List.drop_eq_nil_of_le cg]at aG
  (have ah:=d1;refine bE ?_;clear ah)
  refine D.r ?_
  exact⟨by rw[←aG]; rfl,⟨rfl,trivial⟩,trivial⟩
theorem a66 {f:FuncId}{T:TypeId}{cs:List I}(hf:di Tryz.prog f=true) (hb:ed 1 0 cs=true) (ac:fw ⟨[0],[]⟩ cs=cs) (g:Int→Bool) (l:List Int) (aC:l.length≤1000000000000) (h: ∀v∈l,aY Tryz.prog f [.int .i64 v,.ptr 0 0] (aQ.of 1 0 [(0,T,cs)] []) (dR (.bool (g v)) [(0,T,cs)] [])):aY Tryz.prog 268 [.af 1 (l.map cH),.fn f [.ptr 0 0]] (aQ.of 1 0 [(0,T,cs)] []) (dR (.bool (l.any g)) [(0,T,cs)] []):=by
 have e:=a82 hf hb ac g l aC h
 rw[←vt]
 generalize dt (fun v=> !g v) l 0=z at e ⊢
 clear h
 refine aY.intro bb Tryz.func268 X9 ?_
 unfold NA TB
 simp(disch:=omega)only[go_sem,simprocAttr]
 refine aj ?_
 refine D.yU hb ac (eE l) e ?_
 refine aj ?_
 refine D.r ?_
 exact⟨rfl,⟨rfl,trivial⟩,trivial⟩
end
end Go.aO.T.N
namespace Go.Proofs
set_option maxRecDepth 100000
theorem aZ0 (w:World):(Instr.typeAssert .nilIface 20 180 true).run Tryz.prog w= .ok (.tuple #[.agg #[.string ByteArray.empty,.int .i64 0],.bool false]) w:=by
 have aG:(Tryz.prog.info? 180).bind (·.zero)=some (.agg #[.string ByteArray.empty,.int .i64 0]):=by kernel_rfl
 cases ad:Tryz.prog.info? 180 with
 |none=>rw[ad]at aG; cases aG
 |some i=>
  rw[ad]at aG
  simp at aG
  simp [Instr.typeAssert,run_underlying Tryz.underlying180,zeroValue,typeInfo,ad,aG]
theorem au9 (p q:Value) (w:World):
  CallsD Tryz.prog 83 #[p,q] .returning w fun e rQ w'=>e= .returned (.tuple #[])∧rQ= .returning∧w'.os=w.os∧w'.tape=w.tape∧w'.output=w.output∧w'.heap.size=w.heap.size+1∧∀b,b<w.heap.size→w'.heap[b]? =w.heap[b]? :=by
 refine callsD_of_wpS Tryz.func83 rfl fun Mb cs hu=> ?_
 apply wpS_seq
 apply wpS_region
 simp [wpOpsS,go_sem,recoverD,hu,Tryz.ntmps83,Exit.thenS,aZ0]
 apply wpS_seq
 apply wpS_region
 simp [wpOpsS,go_sem,Exit.thenS]
 refine wpS_cond (t:=false) (by simp [Act.eval,Array.replicate]) ?_
 simp only[Bool.false_eq_true,if_false]
 refine wpS_of_wp (wp_skip ?_)
 cases Mb
 simp_all [bodyPostS,results,Tryz.results83]
 refine⟨rfl,rfl,fun b hb=> ?_⟩
 try rw[heap_setCell_other _ _ _ _ (by simp; omega),heap_setCell_other _ _ _ _ (by simp; omega)]
 show (w.heap.push _)[b]? = _
 rw[Array.getElem?_push,if_neg (by omega)]
 exact Array.getElem?_eq_getElem hb
end Go.Proofs
namespace Go.aO.T.N
open Go Go.aO Go.Proofs
theorem ZR (hA:List I) (aq:hA.length=2):CZ Tryz.prog 83 hA:=by
 intro m af be ae
 have aC:=aR.length ae
 match af,aC with
 |[p,q],_=>
  refine (au9 p q m.w).mono ?_
  rintro e rQ w' ⟨rfl,rfl,U,aa,ay,bl,bW⟩
  exact⟨⟨_,rfl⟩,rfl,m.L,m.T,b9.hid be U aa ay (by omega) bW,b8.hid U aa ay (by omega) bW⟩
 |[],h=>simp [aq]at h
 |[_],h=>simp [aq]at h
 | _:: _:: _:: _,h=>simp [aq]at h
end Go.aO.T.N
namespace Go.Proofs
set_option maxRecDepth 100000
theorem aY9 (v:Value) (w:World):(Instr.typeAssert (.iface 180 v) 20 180 true).run Tryz.prog w= .ok (.tuple #[v,.bool true]) w:=by
 simp [Instr.typeAssert,run_underlying Tryz.underlying180]
end Go.Proofs
namespace Go.aO.T.N
open Go Go.aO Go.Proofs
set_option maxRecDepth 100000
def E0:List bY:=[⟨some 10,none,.pq 0 (.t 2)⟩,⟨some 11,none,.fP 2 false 1 (.t 10)⟩,⟨some 12,none,.pq 1 (.t 2)⟩,⟨some 13,none,.fP 2 false 1 (.t 12)⟩,⟨none,none,.hP 0 [1,2] 1 (.t 0) (.t 11)⟩,⟨none,none,.hP 1 [0,2] 1 (.t 1) (.t 13)⟩]
theorem Jr (H:aA) (b:Nat) (T:TypeId) (cs:List I):(H.cp b T cs).aZ b=some (T,cs):=if_pos rfl
theorem Jq (H:aA){b k:Nat}(T:TypeId) (cs:List I) (h:k≠b):(H.cp b T cs).aZ k=H.aZ k:=if_neg h
theorem be0 {H:aA}{gS fz z:Nat}{s:List UInt8}{e:Int}{v0 v1:I}{env:Env}{K:Env→aA→Prop}{Rp:I→aA→Prop}(cA:env.get 0= .ptr gS 0) (ar:env.get 1= .ptr fz 0) (ax:env.get 2= .ptr z 0)
  (aU:H.aZ gS=some (9,[v0])) (U:H.aZ fz=some (41,[v1])) (aa:H.aZ z=some (180,[.str s,.int .i64 e])) (AX:gS≠fz) (d0:gS≠z) (d1:fz≠z)
  (dZ: ∀bd,K bd ((H.cp gS 9 [.str s]).cp fz 41 [.int .i64 e])):bt Tryz.prog E0 env H K Rp:=by
 unfold E0
 refine bt.p (v:= .ptr z 0) (by simp [ca,aJ.aI,Env.get,ax]) ?_
 refine bt.p (v:= .str s) (by simp [ca,aJ.aI,Env.get,ax,aa,I.js,I.one]) ?_
 refine bt.p (v:= .ptr z 1) (by simp [ca,aJ.aI,Env.get,ax]) ?_
 refine bt.p (v:= .int .i64 e) (by simp [ca,aJ.aI,Env.get,ax,aa,I.js,I.one]) ?_
 rw[C0]
 simp only[GStep,wanted]
 refine .hP (b:=gS) (o:=0) (T:=9) (cs:=[v0]) (by simp [Env.get,cA]) (fun s hs=> ?_) (by simp [aJ.aI,Env.get,cA]) aU rfl (Nat.le_refl _) rfl ?_
 ·simp only[List.mem_cons,List.not_mem_nil,or_false]at hs
  rcases hs with rfl|rfl
  ·exact⟨fz,by simp [Env.get,ar],AX.symm⟩
  ·exact⟨z,by simp [Env.get,ax],d0.symm⟩
 rw[C0]
 simp only[GStep,wanted]
 refine .hP (b:=fz) (o:=0) (T:=41) (cs:=[v1]) (by simp [Env.get,Env.put,ar]) (fun s hs=> ?_) (by simp [aJ.aI,Env.get,Env.put,ar]) (by rw[Jq _ _ _ AX.symm]; exact U) rfl (Nat.le_refl _) rfl ?_
 ·simp only[List.mem_cons,List.not_mem_nil,or_false]at hs
  rcases hs with rfl|rfl
  ·exact⟨gS,by simp [Env.get,Env.put,cA],AX⟩
  ·exact⟨z,by simp [Env.get,Env.put,ax],d1.symm⟩
 exact bt.nil (dZ _)
theorem aB8:Tryz.prog.follows .mixedOrders=true:=by kernel_rfl
theorem Zu:(match Tryz.f83.body with
  |some (.seq _ (.seq _ (.cond _ r _)))=>mq Tryz.prog 14 r (.region E0 true)
  | _=>false)=true:=by kernel_rfl
set_option maxHeartbeats 8000000 in
theorem aH5 {m:Mem}(be:b9 m){gS fz:Nat}{s:List UInt8}{e:Int}(hs:s.length≤maxLen){v0 v1:I}(aU:m.H.aZ gS=some (9,[v0])) (U:m.H.aZ fz=some (41,[v1])) (AX:gS≠fz):
  CallsD Tryz.prog 83 #[.pointer (some ⟨gS,0,none⟩),.pointer (some ⟨fz,0,none⟩)] (.panicking [{v:= .iface 180 (.agg #[.string ⟨⟨s⟩⟩,.int .i64 e]),recovered:=false}]) m.w fun x rQ w'=>
   (∃v,x= .returned v)∧rQ= .panicking [{v:= .iface 180 (.agg #[.string ⟨⟨s⟩⟩,.int .i64 e]),recovered:=true}]∧∃aB hr cO,b9 ⟨w',aB,hr,cO⟩∧b8 m ⟨w',aB,hr,cO⟩∧aB=(m.H.cp gS 9 [.str s]).cp fz 41 [.int .i64 e]:=by
 have qI:=uu be aU
 have aH:=uu be U
 obtain⟨z,aG⟩: ∃z,z=m.w.heap.size:=⟨_,rfl⟩
 refine callsD_of_wpS Tryz.func83 rfl fun Mb cs hu=> ?_
 apply wpS_seq
 apply wpS_region
 simp [wpOpsS,go_sem,recoverD,hu,Tryz.ntmps83,Exit.thenS,aY9]
 apply wpS_seq
 apply wpS_region
 simp [wpOpsS,go_sem,Exit.thenS]
 refine wpS_cond (t:=true) (by simp [Act.eval,Array.replicate]) ?_
 simp only[if_true]
 refine wpS_of_wp ?_
 have ck:=Zu
 simp only[Tryz.f83]at ck
 have aR5:b9 (m.b4 180 [.str s,.int .i64 e] [.string ⟨⟨s⟩⟩,.int .i64 e]):=b9.b4 be (by simp [aR,aP,hs]) (by simp [Value.oneCell'])
 have ae7:=b8.b4 m 180 [.str s,.int .i64 e] [.string ⟨⟨s⟩⟩,.int .i64 e]
 refine aQ0 (n:=14) (m0:=⟨m,[],[]⟩) (anns:=[]) (ops:=E0) (env:=[(0,.ptr gS 0),(1,.ptr fz 0),(2,.ptr z 0)]) (H:=m.H.cp z 180 [.str s,.int .i64 e]) (K:=fun _ H=>H=((m.H.cp z 180 [.str s,.int .i64 e]).cp gS 9 [.str s]).cp fz 41 [.int .i64 e]) (Rp:=fun _ _=>False) aB8 rfl ck (fun x aX lV a h=>h.elim) (fun env H a w dZ ac=> ?_) ?_ ⟨m.b4 180 [.str s,.int .i64 e] [.string ⟨⟨s⟩⟩,.int .i64 e],?_,by rw[aG]; rfl,aR5,ae7,fun k=> ?_,⟨rfl,fun E dC=>by cases dC⟩,?_⟩
 ·obtain⟨aX,rfl,rfl,Jg,GU,_,iR,_⟩:=ac
  have PU:HSub ((m.H.cp gS 9 [I.str s]).cp fz 41 [I.int IntKind.i64 e]) aX.H:=by
   rw[dZ]
   refine⟨fun b x hb=> ?_,fun t i ht=>ht⟩
   have al7:m.H.aZ z=none:=by rw[aG]; exact y3 be
   simp only[aA.cp]at hb ⊢
   by_cases bf:b=fz
   ·simpa [bf] using hb
   by_cases kS:b=gS
   ·simpa [bf,kS] using hb
   simp only[bf,kS,if_false]at hb ⊢
   rw[if_neg (by intro e; rw[e,al7]at hb; cases hb)]
   exact hb
  refine⟨iR.1,_,rfl,.tuple #[],by simp [Go.results,Tryz.results83],⟨_,rfl⟩,rfl,_,aX.L,aX.T,b9.forget PU Jg,b8.forget PU GU,rfl⟩
 ·refine be0 rfl rfl rfl (by rw[Jq _ _ _ (by omega)]; exact aU) (by rw[Jq _ _ _ (by omega)]; exact U) (Jr _ _ _ _) AX (by omega) (by omega) fun _=>rfl
 ·rfl
 ·match k with
  |0=>simp [Env.get,aP,Array.replicate]
  |1=>simp [Env.get,aP,Array.replicate]
  |2=>simp [Env.get,aP,Array.replicate,aG]
  |k+3=>simp [Env.get,aP]
 ·simp
def nn (n:List UInt8) (e:Int):I:= .iE 180 (.agg [.str n,.int .i64 e])
theorem ZS {c:aQ}{gS fz:Nat}{v0 v1:I}{s:List UInt8}{e:Int}(e3:gS≠fz) (Bo:c.H.aZ gS=some (9,[v0])) (nr:c.H.aZ fz=some (41,[v1])):
  yS Tryz.prog 83 [.ptr gS 0,.ptr fz 0] (nn s e) c fun ci=>ci=(c.cp gS 9 [.str s]).cp fz 41 [.int .i64 e]:=by
 intro H0 U4 AP c9 H Pn ab ac
 simp only[bk,aN]at Pn
 obtain⟨_,_,rfl,⟨kb,g0,rfl⟩,_,_,rfl,⟨nb,g1,rfl⟩,rfl⟩:=Pn
 have lD:c9=nn s e:=(I.lX (nn s e) rfl c9).1 ab
 subst lD
 intro m af lV eO be ae Br
 subst eO
 simp only[aR,aP,nn]at ae Br
 obtain⟨_,_,rfl,rfl,_,_,rfl,rfl,rfl⟩:=ae
 obtain⟨x,rfl,l,rfl,_,_,rfl,⟨rfl,as2⟩,_,_,rfl,rfl,rfl⟩:=Br
 obtain⟨z0,qI,kS,fb,iH⟩:=ac.aZ _ _ _ Bo
 obtain⟨ah,aH,bf,b0,cu⟩:=ac.aZ _ _ _ nr
 rw[g0]at kS
 rw[g1]at bf
 cases kS
 cases bf
 have c8:=bk.length iH
 have rG:=bk.length cu
 match qI,c8,fb with
 |[q2],_,fb=>
 match aH,rG,b0 with
 |[s7],_,b0=>
 refine (aH5 be as2 fb b0 (fun e=> ?_)).mono ?_
 ·subst e; exact absurd (ac.mR _ _ _ g0 g1) e3
 rintro cI rQ w' ⟨U,aa,aB,hr,cO,ay,bl,rfl⟩
 refine⟨U,aa,_,hr,cO,ay,bl,U4,_,bC.e8.refl U4,rfl,?_⟩
 exact (ac.cp g0 (by simp [bk,aN])).cp g1 (by simp [bk,aN])
end Go.aO.T.N
namespace Go.aO.T.N
open Go Go.aO Go.Proofs Go.RowKit
set_option maxRecDepth 100000
attribute [local irreducible] Go.aO.av Go.aO.au Go.aO.aY
section
attribute [local go_sem] ba.row db
theorem VG (k cJ ad:Int):Pure Tryz.prog 163 [.agg [.int .i64 k,.int .i64 cJ,.int .i64 ad]] (.bool (pG k cJ ad)):=by
 refine cM bb Tryz.func163 Xo rfl rfl ?_
 unfold MT SP
 simp(disch:=omega)only[go_sem,simprocAttr]
 (repeat' first|refine D.S ?_|refine D.jd true true ?_|refine au.nil ?_|refine av.dN ?_|refine D.W ?_|refine D.Z ?_|refine D.G ?_ ?_|refine D.X ‹_› ?_|refine D.jY ‹_› ?_|refine D.lo ‹_› ?_|intro h|refine D.C ?_ ?_)
 all_goals (refine D.R ?_)
 all_goals (refine⟨_,rfl,.aM ?_ rfl,trivial,trivial⟩; simp_all [pG,I.aM]<;>(try omega))
theorem a88 (k cJ ad:Int):Pure Tryz.prog 377 [.agg [.int .i64 k,.int .i64 cJ,.int .i64 ad]] (.bool (pG k cJ ad)):=by
 refine cM bb Tryz.func377 YK rfl rfl ?_
 unfold N5 Ue
 simp(disch:=omega)only[go_sem,simprocAttr]
 (repeat' first|refine D.S ?_|refine D.jd true true ?_|refine au.nil ?_|refine av.dN ?_|refine D.W ?_|refine D.Z ?_|refine D.G ?_ ?_|refine D.X ‹_› ?_|refine D.jY ‹_› ?_|refine D.lo ‹_› ?_|intro h|refine D.C ?_ ?_)
 all_goals (refine D.R ?_)
 all_goals (refine⟨_,rfl,.aM ?_ rfl,trivial,trivial⟩; simp_all [pG,I.aM]<;>(try omega))
theorem a52 (s:List UInt8):Pure Tryz.prog 228 [.str s] (.bool (s.all fk)):=by
 have e:=aG5 s
 generalize s.all fk=b at e ⊢
 refine cM bb Tryz.func228 XU rfl rfl ?_
 unfold No Tm
 simp(disch:=omega)only[go_sem,simprocAttr]
 refine aj ?_
 refine D.P (e) ?_
 refine aj ?_
 refine D.r ?_
 refine⟨_,rfl,.aM ?_ rfl,trivial,trivial⟩
 simp only[I.aM,Bool.not_not]
theorem VD (v:ba):Pure Tryz.prog 127 [.agg [.int .i64 v.fg,.int .i64 v.n,.str v.s]] (.bool (CO v)):=by
 obtain⟨ja,ig,cJ,ad,fg,n,s⟩:=v
 have e:=a52 s
 have ak: ∃R,R=CO ⟨ja,ig,cJ,ad,fg,n,s⟩:=⟨_,rfl⟩
 obtain⟨R,ak⟩:=ak
 rw[←ak]
 simp only[CO]at ak
 generalize s.all fk=b at e ak
 refine cM bb Tryz.func127 Xa rfl rfl ?_
 unfold MF SB
 simp(disch:=omega)only[go_sem,simprocAttr]
 by_cases U:fg=1
 ·subst U
  (repeat' first|refine D.S ?_|refine D.jd true true ?_|refine au.nil ?_|refine av.dN ?_|refine D.W ?_|refine D.Z ?_|refine D.G ?_ ?_|refine D.X ‹_› ?_|refine D.jY ‹_› ?_|refine D.lo ‹_› ?_|intro h|refine D.C ?_ ?_)
  all_goals (refine D.R ?_)
  all_goals (refine⟨_,rfl,.aM ?_ rfl,trivial,trivial⟩; rw[ak]; simp_all [I.aM]<;>(try (intros; omega)))
 by_cases aa:fg=2
 rotate_left
 ·(have ah:=U;have z2:=aa;refine eM ?_;clear ah z2)
  refine D.r ?_
  exact⟨_,rfl,.aM (by rw[ak,if_neg U,if_neg aa]; rfl) rfl,trivial,trivial⟩
 subst aa
 rw[if_neg U,if_pos rfl]at ak
 by_cases ay:n=0
 rotate_left
 ·(have ah:=ay;refine bE ?_;clear ah)
  refine D.r ?_
  exact⟨_,rfl,.aM (by rw[ak]; simp [ay,I.aM]) rfl,trivial,trivial⟩
 by_cases bl:s.length≤40
 rotate_left
 ·have d4: ¬(s.length:Int)≤40:=by omega
  (have ah:=ay;have z2:=d4;refine eM ?_;clear ah z2)
  refine D.r ?_
  exact⟨_,rfl,.aM (by rw[ak]; simp [bl,I.aM]) rfl,trivial,trivial⟩
 have d4:(s.length:Int)≤40:=by omega
 (have ah:=ay;have z2:=d4;refine eM ?_;clear ah z2)
 refine D.P (e) ?_
 refine aj ?_
 refine D.r ?_
 exact⟨_,rfl,.aM (by rw[ak]; simp [ay,bl,I.aM]) rfl,trivial,trivial⟩
theorem a57 (v:ba):Pure Tryz.prog 257 [.agg [.int .i64 v.fg,.int .i64 v.n,.str v.s]] (.int .i64 (Ce v)):=by
 obtain⟨ja,ig,cJ,ad,fg,n,s⟩:=v
 refine cM bb Tryz.func257 X1 rfl rfl ?_
 unfold Ns Tt
 simp(disch:=omega)only[go_sem,simprocAttr]
 (repeat' first|refine D.S ?_|refine D.jd true true ?_|refine au.nil ?_|refine av.dN ?_|refine D.W ?_|refine D.Z ?_|refine D.G ?_ ?_|refine D.X ‹_› ?_|refine D.jY ‹_› ?_|refine D.lo ‹_› ?_|intro h|refine D.C ?_ ?_)
 all_goals (refine D.R ?_)
 all_goals (refine⟨_,rfl,.aM ?_ rfl,trivial,trivial⟩; simp_all [Ce,I.aM]<;>(try omega))
theorem a35 (v:ba):Pure Tryz.prog 149 [.agg [.int .i64 v.ig,.int .i64 v.cJ,.int .i64 v.ad],.agg [.int .i64 v.fg,.int .i64 v.n,.str v.s]] (.bool (zr v)):=by
 have ar:=a57 v
 have ax:=VG v.ig v.cJ v.ad
 have bU:=VD v
 obtain⟨ja,ig,cJ,ad,fg,n,s⟩:=v
 have ak: ∃R,R=zr ⟨ja,ig,cJ,ad,fg,n,s⟩:=⟨_,rfl⟩
 obtain⟨R,ak⟩:=ak
 rw[←ak]
 simp only[zr]at ak
 simp only at ar ax bU
 generalize Ce ⟨ja,ig,cJ,ad,fg,n,s⟩=z at ar ak
 generalize CO ⟨ja,ig,cJ,ad,fg,n,s⟩=kL at bU ak
 generalize pG ig cJ ad=iM at ax ak
 refine cM bb Tryz.func149 Xf rfl rfl ?_
 unfold MK SG
 simp(disch:=omega)only[go_sem,simprocAttr]
 refine aj ?_
 refine D.P (ar) ?_
 refine aj ?_
 refine D.P (ax) ?_
 cases iM
 ·refine aj ?_
  refine D.r ?_
  exact⟨_,rfl,.aM (by rw[ak]; rfl) rfl,trivial,trivial⟩
 refine aj ?_
 refine D.P (bU) ?_
 cases kL
 ·refine aj ?_
  refine D.r ?_
  exact⟨_,rfl,.aM (by rw[ak]; rfl) rfl,trivial,trivial⟩
 (repeat' first|refine D.S ?_|refine D.jd true true ?_|refine au.nil ?_|refine av.dN ?_|refine D.W ?_|refine D.Z ?_|refine D.G ?_ ?_|refine D.X ‹_› ?_|refine D.jY ‹_› ?_|refine D.lo ‹_› ?_|intro h|refine D.C ?_ ?_)
 all_goals (refine D.R ?_)
 all_goals (refine⟨_,rfl,.aM ?_ rfl,trivial,trivial⟩; rw[ak]; simp_all [I.aM]<;>(try omega))
theorem D.Wc {dd:Program}{anns:List I}{l:List bY}{env:Env}{K:Env→aQ→Prop}{Rp:I→aQ→Prop}{x:aJ}{T:TypeId}{v:I}{c:aQ}(h:Rp (.iE T v) c) (ab:bp env x= .iE T v:=by simp (disch:=omega) only[go_sem,simprocAttr]<;>with_reducible rfl):au dd anns (⟨none,none,.panic x⟩::l) env c K Rp:=au.aI4 rfl ab h
theorem J8 (n:bF) (e:Int):Pure Tryz.prog 84 [.bool true,.str n,.int .i64 e] (.cT []):=by
 refine cM bb Tryz.func84 LB rfl rfl ?_
 unfold GP Jd
 simp(disch:=omega)only[go_sem,simprocAttr]
 refine aj ?_
 exact D.rx
theorem J7 (n:bF) (e:Int):aY Tryz.prog 84 [.bool false,.str n,.int .i64 e] (aQ.of 0 0 [] []) (th (nn n e)):=by
 refine aY.intro bb Tryz.func84 LB ?_
 unfold GP Jd
 simp(disch:=omega)only[go_sem,simprocAttr]
 refine aj ?_
 refine D.Wc ?_
 exact rfl
end
end Go.aO.T.N
