/- Part of a proof; own work. -/
import Derived.Lib.ItoaNum
import Derived.Lib.Strings
import Derived.Lib.Join
import Derived.Lib.ItoaLen
import Derived.Test.YtlemhelnmidpfaaGreatDoorProg
import Derived.Tactics
import Derived.Tactics2
import Derived.Recover
import Derived.KernelRfl
import Derived.Laws.Pointers
import Derived.Laws.Rows
import Derived.Test.YtlemhelnmidpfaaGreatDoorVS9
set_option linter.unusedVariables false
set_option linter.unusedSimpArgs false
set_option maxHeartbeats 16000000
open Array renaming replicate→bc6
open Bool renaming false_eq_true→aU6,and_true→aW0,true_and→aU7,true_or→bf5,and_self→aT7,not_not→bf6,and_eq_true→aT0
open Int renaming natCast_add→aT5
open List renaming map_cons→aU5,replicate→aU2,length_cons→aT3,length_nil→aU1,take_succ_cons→aY1,take_zero→aX5,nil_append→aV1,cons_append→aU4,append_nil→aV7,map_nil→aX6,all_cons→aV0,flatten_cons→aU3,flatten_nil→aW2,filter_cons→bf2,filter_nil→bc5,contains_cons→aZ1,contains_nil→be5,length_map→aT1,map_append→aV4,length_append→aT2,append_assoc→aU9,take_add_one→aW8,take_length→aX9,mem_of_getElem?→aT6,drop_length→aY2,getElem?_of_mem→aW5,take_append_drop→bc1,flatten_append→bf0,length_replicate→aX8,length→bl3,mem_cons_of_mem→aY7,drop_eq_nil_of_le→aT9,mem_cons→aV8,not_mem_nil→aY4,length_drop→bd3,length_take→aX3
open Nat renaming zero_add→aW6,zero_le→aT8,le_refl→aT4,mul_le_mul_left→be9,le_trans→aX0,reduceBEq→bd1,le_of_ble_eq_true→aZ3,reduceAdd→bd2
open Option renaming map_some→aV5,toList_some→bi2
open Go.Proofs.Tryz renaming prog→aS9
namespace Go.aX
open Go
structure vV where
 kind:Int
 text:List UInt8
 val:Int
 fK:Int
def vV.row (t:vV):List I:=[.int .i64 t.kind,.str t.text,.int .i64 t.val,.int .i64 t.fK]
inductive aK4 (α:Type) where
 |ok (a:α) (r:List vV)
 |err (p e:Int)
 |out
section
variable (AE:Int)
def jM (s:List UInt8):Int:=
 if s=[124,124] then 1 else if s=[38,38] then 2 else if s=[61,61] then 3 else if s=[33,61] then 3
 else if s=[60] then 4 else if s=[60,61] then 4 else if s=[62] then 4 else if s=[62,61] then 4
 else if s=[43] then 5 else if s=[45] then 5 else if s=[42] then 6 else if s=[47] then 6 else if s=[37] then 6 else 0
theorem ag5 (s:List UInt8):0≤jM s∧jM s≤6:=by
 have key: ∀(c:Prop) [Decidable c] (a b:Int),(0≤a∧a≤6)→(0≤b∧b≤6)→0≤(if c then a else b)∧(if c then a else b)≤6:=by
  intro c _ a b h1 J
  split
  ·exact h1
  ·exact J
 unfold jM
 repeat' (refine key _ _ _ (by decide) ?_)
 decide
end
def ag8 (l:List vV) (AE:Int):List I:=[.ak 4 (l.map vV.row),.int .i64 AE]
abbrev ps (l:List vV) (AE:Int):aJ:=aJ.of 1 0 [(0,83,ag8 l AE)] []
abbrev bT:=List UInt8
def kZ:bT→bT
 |[]=>[]
 |c::s=>(if c.toNat=34∨c.toNat=92 then[92,c] else[c])++kZ s
def zg (s:bT):bT:=[34]++kZ s++[34]
def au.kind:au→Int| .mk k _ _ _ _ _=>k
def au.op:au→bT| .mk _ o _ _ _ _=>o
def ao.kind:ao→Int| .mk k _ _ _ _ _=>k
def lq (x:au) (s:bT) (k:Int):bT:=if x.kind=6∧jM x.op<k then[40]++s++[41] else s
def L7:List bT→bT
 |s:: _=>[108,101,110,40]++s++[41]
 |[]=>[]
def QZ (o:bT):List au→List bT→bT
 |x:: _,s:: _=>o++lq x s 7
 | _,_=>[]
def G6 (o:bT):List au→List bT→bT
 |x::y:: _,s::u:: _=>lq x s (jM o)++[32]++o++[32]++lq y u (jM o+1)
 | _,_=>[]
def Dz (k:Int) (o m t:bT) (n:Int) (l:List au) (xl:List bT):bT:=
 if k=1 then Lib.itoa n else if k=2 then zg t else if k=3 then m else if k=4 then L7 xl else if k=5 then QZ o l xl else G6 o l xl
mutual
def dx:au→bT
 | .mk k o m t n l=>Dz k o m t n l (BQ l)
def BQ:List au→List bT
 |[]=>[]
 |x::l=>dx x::BQ l
end
theorem FK: ∀l,BQ l=l.map dx
 |[]=>rfl
 |x::l=>by simp only[BQ,aU5,FK l]
def fE (d:Nat) (ps:List bT):bT:=aU2 d 9++ps.flatten++[10]
def wW:List ao→Bool
 |[y]=>decide (y.kind=2)
 | _=>false
mutual
def ao.jL (d:Nat) (bw:bT):ao→bT
 | .mk k m x t a b=>if k=1 then fE d [m,[32,61,32],dx x,[59]]
  else if k=3 then fE d [[119,104,105,108,101,32],dx x,[32,116,105,109,101,115,32],Lib.itoa t,[32,123]]++ao.fG (d+1) a++fE d [[125]]
  else fE d [bw,dx x,[32,123]]++ao.fG (d+1) a++(if wW b=true then ao.x8 d b else (if b.isEmpty=true then[] else fE d [[125,32,101,108,115,101,32,123]]++ao.fG (d+1) b)++fE d [[125]])
def ao.fG (d:Nat):List ao→bT
 |[]=>[]
 |x::l=>ao.jL d [105,102,32] x++ao.fG d l
def ao.x8 (d:Nat):List ao→bT
 |[]=>[]
 |y:: _=>ao.jL d [125,32,101,108,115,101,32,105,102,32] y
end
def wT (k n:Int) (s:bT):bT:=if k=2 then zg s else Lib.itoa n
def ng (v:bQ):bT:=fE 1 [[118,97,114,32],v.name,[58,32],if v.gj=2 then[116,101,120,116,32] else[105,110,116,32],Lib.itoa v.cm,[32,46,46,32],Lib.itoa v.ae,[32,61,32],wT v.ei v.n v.s,[59]]
def mK (h:bK):bT:=fE 1 [[111,110,32],h.dw,[40],Lib.join h.ps [44,32],[41,32,102,114,111,109,32],h.peer,[32,123]]++ao.fG 2 h.body++fE 1 [[125]]
def vO:List au→bT
 |[]=>[]
 |x:: _=>[32,119,104,101,114,101,32]++dx x
def nK (o:cC):bT:=fE 1 [[111,102,102,101,114,32],o.dw,[40],Lib.join (o.args.map dx) [44,32],[41,32,116,111,32],o.peer,vO o.eF,[59]]
def s9 (x:c9):bT:=
 fE 0 [[115,101,114,118,105,99,101,32],x.name,[32,112,108,97,121,115,32],x.role,[32,111,102,32],x.gh,[32,123]]++(x.vars.map ng).flatten++(x.an.map mK).flatten++(x.os.map nK).flatten++fE 0 [[125]]
end Go.aX
namespace Go.aX.T.N
open Go Go.aX Go.Proofs Go.RowKit
set_option maxRecDepth 100000
attribute [local irreducible] Go.aX.ay Go.aX.ai Go.aX.aY
attribute [go_sem] wrap64 Rc Re MB decide_true decide_false dst AR KR KS yG rE dE eP eQ jg I.dC ot I.o3 M9 Nd Nb MM M2 M3 M4 MS MT MU MV MW MX MG MH MQ Nc Nf Na MN M1 MZ M0 M5 Ng Nh MR M6 M7 MP MO M8 MY MJ MI MF Ni Nj ML MK e4 HJ HI Env.get vz xa EO No Ns y5 mj w4 EP Np Nr Nq mW qF oX pM pK pL oz oA fT hW rv KF eO I.ek CS H5 Nw Nx Nl Nn wa p8 tW sa s6 HD HC CP I.cells I.ev I.flat b9 eD fs kC I.one I.hJ gb nz mX kR initFrom nW td tc cond_true cond_false beq_self_eq_true Bool.not_true Bool.not_false beq_true beq_false eq_self if_true Option.some.injEq aT3 aU1 aY1 aX5 List.drop_succ_cons List.drop_zero List.set_cons_succ List.set_cons_zero aV1 aU4 aV7 and_self aV5 Option.map_none aU5 aX6 aU6 if_false aW6 Nat.add_zero true_and and_true aW0 aU7 List.getElem?_cons_zero List.getElem?_cons_succ aT8 aT4 aV0 List.all_nil aU3 aW2 qe rf bf2 bc5 aZ1 be5 Bool.or_false Bool.or_true Bool.false_or bf5
section
theorem gz (h:bK):h.row=[.str h.dw,.str h.peer,.ak 1 (h.ps.map ca),.ak 11 (h.body.map ao.row)]:=by rw[bK.row,ao.lr]
theorem ht (o:cC):o.row=[.str o.dw,.str o.peer,.ak 6 (o.args.map au.row),.ak 6 (o.eF.map au.row)]:=by rw[cC.row,au.lr,au.lr]
theorem eb (l:List bK):eD (l.map bK.row)=true:=lN (fun h=>by simp only[gz,b9,I.flat,dB,ao.cQ,aT7]) l
theorem of_flat (l:List cC):eD (l.map cC.row)=true:=lN (fun o=>by simp only[ht,b9,I.flat,au.cQ,aT7]) l
theorem L8 {R n b:Nat}(ac:R≤140737488355328) (hb:1≤b) (h:n*b≤R):n≤maxLen:=by
 have:n*1≤n*b:=be9 n hb
 unfold maxLen
 omega
theorem dZ (l:List bQ):eD (l.map bQ.row)=true:=lN (fun _=>rfl) l
theorem nO (x:c9):x.eU= .agg [.str x.name,.str x.role,.str x.gh,.ak 7 (x.vars.map bQ.row),.ak 4 (x.an.map bK.row),.ak 4 (x.os.map cC.row)]:=rfl
theorem k7 (x:c9):x.cells=[.str x.name,.str x.role,.str x.gh,.ak 7 (x.vars.map bQ.row),.ak 4 (x.an.map bK.row),.ak 4 (x.os.map cC.row)]:=rfl
set_option maxHeartbeats 2000000 in
theorem E8 (s:List UInt8):Pure aS9 306 [.str s] (.int .i64 (jM s)):=by
 refine dt bk Tryz.func306 TF rfl rfl ?_
 unfold JJ Pn
 simp(disch:=omega)only[go_sem,simprocAttr]
 (repeat' first|refine D.S ?_|refine D.iv true true ?_|refine ai.nil ?_|refine ay.dr ?_|refine D.W ?_|refine D.Z ?_|refine D.G ?_ ?_|refine D.X ‹_› ?_|refine D.jU ‹_› ?_|refine D.jV ‹_› ?_|intro h|refine D.C ?_ ?_)
 all_goals
  simp only[decide_eq_true_eq,decide_eq_false_iff_not]at*
  refine D.r ?_
  refine⟨_,rfl,.aQ ?_ rfl,trivial,trivial⟩
  simp_all [jM,I.aQ]
theorem LS {P:Program}{t:TypeId}{z:Value}{n b:Nat}(h:(P.info? t).map (fun i=>(i.zero,i.size,i.bytes))=some (some z,n,b)): ∃i,P.info? t=some i∧i.zero=some z∧i.size=n∧i.bytes=b:=by
 cases ae:P.info? t with
 |none=>rw[ae]at h; cases h
 |some i=>
  rw[ae]at h
  simp only[aV5,Option.some.injEq,Prod.mk.injEq]at h
  exact⟨i,rfl,h.1,h.2.1,h.2.2⟩
def Rm:Value:= .agg #[.int .i64 0,.string ByteArray.empty,.string ByteArray.empty,.string ByteArray.empty,.int .i64 0,.slice none 0 0]
def Rn:Value:= .agg #[.int .i64 0,.string ByteArray.empty,.int .i64 0,.string ByteArray.empty,.string ByteArray.empty,.string ByteArray.empty,.int .i64 0,.slice none 0 0,.int .i64 0,.slice none 0 0,.slice none 0 0]
end
end Go.aX.T.N
namespace Go.aX.T.N
open Go Go.aX Go.Proofs Go.RowKit
set_option maxRecDepth 100000
attribute [local irreducible] Go.aX.ay Go.aX.ai Go.aX.aY
section
theorem qb (l:List UInt8):eD (l.map gQ)=true:=lN (fun _=>rfl) l
attribute [local go_sem] gQ qb
abbrev p6 (T:TypeId) (A:I) (out:List UInt8) (cs:List I):ey:=[(0,T,A:: .own 0 1 (out.map gQ)::cs)]
abbrev qa (out:List UInt8):eA:=[(0,.bP 5 1 (out.map gQ).length)]
abbrev q9 (T:TypeId) (A:I) (out:List UInt8) (cs:List I):aJ:=aJ.of 1 1 (p6 T A out cs) (qa out)
def BT (T:TypeId) (cs:List I):Prop:=(T=302∧cs=[])∨(T=304∧∃d:Int,cs=[.int .i64 d])
theorem t199 {T:TypeId}{A:I}{cs:List I}(dj:BT T cs) (out:List UInt8) (eE:Bp 0 A=true):aY aS9 360 [.ptr 0 0] (q9 T A out cs) (c8 (.cV []) (p6 T (.ptr 0 0) out cs) (qa out)):=by
 have aE:liesAt aS9 Tryz.prog.depth T ((I.own 0 1 (out.map gQ)::cs).length+1|>(·/Tryz.prog.cellsOf T)) 0 (Tryz.yL.t 72) 1=true:=by
  rcases dj with ⟨rfl,rfl⟩|⟨rfl,d,rfl⟩
  ·kernel_rfl
  ·kernel_rfl
 have:=Uw (c:=q9 T A out cs) Tryz.ZC Tryz.yb.toX72 (T:=T) (b:=0) (a:=A) (cs:= .own 0 1 (out.map gQ)::cs) aE rfl eE
 rw[EO]at this
 exact this.mono fun o c ⟨aj,aq⟩=>by subst aj aq; exact⟨rfl,⟨rfl,trivial⟩,rfl,trivial⟩
def zK (A:I):Prop:=A= .dI (.pointer none)∨A= .ptr 0 0
theorem GZ {A:I}(h:zK A):Bp 0 A=true:=by rcases h with rfl|rfl<;>rfl
theorem NW {T:TypeId}{A:I}{cs:List I}(dj:BT T cs) (eE:zK A) (out s:List UInt8) (aE:out.length+s.length≤1000000000):aY aS9 307 [.ptr 0 0,.str s] (q9 T A out cs) (c8 (.cV [.int .i64 (s.length:Int),.dI .nilIface]) (p6 T (.ptr 0 0) (out++s) cs) (qa (out++s))):=by
 have e:=t199 dj out (GZ eE)
 have hb:rowsOf 1 (.str s)=some (s.map gQ):=rfl
 have kv:(out.map gQ).length=out.length:=aT1 _
 rcases eE with rfl|rfl<;>rcases dj with ⟨rfl,rfl⟩|⟨rfl,d,rfl⟩
 all_goals
  refine aY.intro bk Tryz.func307 TG ?_
  unfold JK Po
  simp(disch:=omega)only[go_sem,simprocAttr]
  refine ap ?_
  refine D.F ⟨[0],[0]⟩ (e) ?_
  refine ap ?_
  (apply ai.GV (new:=s.map gQ);(·simp(disch:=omega)only[go_sem,simprocAttr]<;>with_reducible rfl);(·simp(disch:=omega)only[go_sem,simprocAttr]<;>with_reducible rfl);(·exact hb);(·simp only[aT1]; omega);(·simp only[aT1,maxLen]; omega))
  refine ap ?_
  refine D.r ?_
  refine⟨rfl,⟨?_,trivial⟩,?_,trivial⟩
  ·simp only[aV4]; rfl
  ·simp only[aV4,aT2]; rfl
theorem xb {T:TypeId}{A:I}{cs:List I}(dj:BT T cs) (eE:zK A) (out:List UInt8) (c:UInt8) (z:Int) (aD:(c.toNat:Int)=z) (aE:out.length+1≤1000000000):aY aS9 309 [.ptr 0 0,.int .u8 z] (q9 T A out cs) (c8 (.dI .nilIface) (p6 T (.ptr 0 0) (out++[c]) cs) (qa (out++[c]))):=by
 have e:=t199 dj out (GZ eE)
 have kv:(out.map gQ).length=out.length:=aT1 _
 subst aD
 rcases eE with rfl|rfl<;>rcases dj with ⟨rfl,rfl⟩|⟨rfl,d,rfl⟩
 all_goals
  refine aY.intro bk Tryz.func309 TH ?_
  unfold JL Pp
  simp(disch:=omega)only[go_sem,simprocAttr]
  refine ap ?_
  refine D.F ⟨[0],[0]⟩ (e) ?_
  refine ap ?_
  refine D.jz ?_
  refine ap ?_
  refine D.r ?_
  refine⟨rfl,⟨?_,trivial⟩,?_,trivial⟩
  ·simp only[aV4]; rfl
  ·simp only[aV4,aT2]; rfl
end
section
attribute [local go_sem] gQ qb
theorem t129 {T:TypeId}{A:I}{cs:List I}(eE:True) (out:List UInt8) (aW:out≠[]):aY aS9 223 [.ptr 0 0] (q9 T A out cs) (c8 (.str out) [] []):=by
 have:=aw0 (c:=q9 T A out cs) Tryz.ZB Tryz.yb (T:=T) (b:=0) (t:=0) (cs:=A:: .own 0 1 (out.map gQ)::cs) (l:=out) rfl rfl (by simp only[q9,qa,aT1]; rfl) aW
 exact this.mono fun o c ⟨aj,aq⟩=>by subst aj; exact⟨rfl,trivial,trivial⟩
theorem N3: ∀a b:bT,kZ (a++b)=kZ a++kZ b
 |[],b=>rfl
 |c::a,b=>by simp only[aU4,kZ,N3 a b,aU9]
theorem zh: ∀a:bT,(kZ a).length≤2*a.length
 |[]=>aT4 _
 |c::a=>by
  have:=zh a
  simp only[kZ,aT2,aT3]
  split<;>simp only[aT3,aU1]<;>omega
theorem an4 {s:bT}{i:Nat}{c:UInt8}(h:s[i]? =some c):kZ (s.take (i+1))=kZ (s.take i)++(if c.toNat=34∨c.toNat=92 then[92,c] else[c]):=by
 rw[aW8,h,N3]
 simp only[bi2,kZ,aV7]
theorem NX (s:bT) (an:s.length≤100000000):Pure aS9 311 [.str s] (.str (zg s)):=by
 refine dt bk Tryz.func311 TJ rfl rfl ?_
 unfold JM Pr
 simp(disch:=omega)only[go_sem,simprocAttr]
 refine D.iv true true ?_
 refine ay.dr ?_
 refine dM ?_
 refine D.iv true true ?_
 refine ay.dr ?_
 refine dM ?_
 have eh:BT 302 []:= .inl ⟨rfl,rfl⟩
 refine ay.tx 0 1 1 5 rfl rfl (by decide) ?_
 simp(disch:=omega)only[go_sem,simprocAttr]
 refine ap ?_
 refine D.F ⟨[0],[0]⟩ (xb eh (.inl rfl) [] 34 34 rfl (by decide)) ?_
 refine ap ?_
 refine ay.dq (X:=Nat) 0 (fun i=>[(0,.str s),(3,.ptr 0 0),(7,.int .i64 (s.length:Int)),(8,.int .i64 (i:Int))]) (fun i=>p6 302 (.ptr 0 0) ([34]++kZ (s.take i)) []) (fun i=>qa ([34]++kZ (s.take i))) (fun i=>i≤s.length) (fun i=>s.length-i) (aT8 _) ⟨rfl,rfl,rfl,rfl,trivial⟩ ⟨rfl,trivial⟩ ⟨rfl,trivial⟩ ?_
 intro i ae
 try simp only at ae ⊢
 have LB:=zh (s.take i)
 rw[aX3]at LB
 cases ad:s[i]? with
 |some c=>
  have cL:=(List.getElem?_eq_some_iff.1 ad).1
  have d1:(i:Int)<(s.length:Int):=by omega
  have fA:=an4 ad
  obtain⟨Y,hi⟩: ∃Y,Y=[34]++kZ (s.take i):=⟨_,rfl⟩
  have wC:Y.length≤400000000:=by rw[hi]; simp only[aT2,aT3,aU1]; omega
  rw[←hi]
  by_cases DI:c.toNat=34∨c.toNat=92
  ·rw[if_pos DI]at fA
   have qw:34::kZ (s.take (i+1))=Y++[92]++[c]:=by rw[fA,hi]; simp
   clear hi fA
   rcases DI with h|h
   focus
    have d2:(c.toNat:Int)=34:=by omega
    (repeat' first|(apply ai.s rfl;(·simp(disch:=omega)only[go_sem,simprocAttr,d1,d2]<;>with_reducible rfl))|(apply ay.s true true;(·simp(disch:=omega)only[go_sem,simprocAttr,d1,d2]<;>with_reducible rfl))|apply ai.nil|(refine ay.dr ?_)|(apply ai.fi;(·simp(disch:=omega)only[go_sem,simprocAttr,d1,d2]<;>with_reducible rfl))|(apply ai.fj;(·rfl);(·simp(disch:=omega)only[go_sem,simprocAttr,d1,d2]<;>with_reducible rfl))|(apply ai.gs;(·simp(disch:=omega)only[go_sem,simprocAttr,d1,d2]<;>with_reducible rfl))|((first|apply ai.fl|apply ai.fm|apply ai.fo);(·simp(disch:=omega)only[go_sem,simprocAttr,d1,d2]<;>with_reducible rfl);(·simp(disch:=omega)only[go_sem,simprocAttr,d1,d2]<;>with_reducible rfl);(·assumption);(·omega))|intro h)
   rotate_left
   focus
    have d2: ¬(c.toNat:Int)=34:=by omega
    have d3:(c.toNat:Int)=92:=by omega
    (repeat' first|(apply ai.s rfl;(·simp(disch:=omega)only[go_sem,simprocAttr,d1,d2,d3]<;>with_reducible rfl))|(apply ay.s true true;(·simp(disch:=omega)only[go_sem,simprocAttr,d1,d2,d3]<;>with_reducible rfl))|apply ai.nil|(refine ay.dr ?_)|(apply ai.fi;(·simp(disch:=omega)only[go_sem,simprocAttr,d1,d2,d3]<;>with_reducible rfl))|(apply ai.fj;(·rfl);(·simp(disch:=omega)only[go_sem,simprocAttr,d1,d2,d3]<;>with_reducible rfl))|(apply ai.gs;(·simp(disch:=omega)only[go_sem,simprocAttr,d1,d2,d3]<;>with_reducible rfl))|((first|apply ai.fl|apply ai.fm|apply ai.fo);(·simp(disch:=omega)only[go_sem,simprocAttr,d1,d2,d3]<;>with_reducible rfl);(·simp(disch:=omega)only[go_sem,simprocAttr,d1,d2,d3]<;>with_reducible rfl);(·assumption);(·omega))|intro h)
   all_goals
    refine D.F ⟨[0],[0]⟩ (xb eh (.inr rfl) Y 92 92 rfl (by omega)) ?_
    refine ap ?_
    refine D.F ⟨[0],[0]⟩ (xb eh (.inr rfl) (Y++[92]) c _ rfl (by simp only[aT2,aT3,aU1]; omega)) ?_
    refine ap ?_
    refine ay.fH (i+1) (by omega) ⟨rfl,rfl,rfl,by simp only[aT5]; rfl,trivial⟩ (by rw[qw]; exact⟨rfl,trivial⟩) (by rw[qw]; exact⟨rfl,trivial⟩) rfl rfl (by show s.length-(i+1)<s.length-i; omega)
  ·rw[if_neg DI]at fA
   have qw:34::kZ (s.take (i+1))=Y++[c]:=by rw[fA,hi]; simp
   clear hi fA
   have d2: ¬(c.toNat:Int)=34:=by omega
   have d3: ¬(c.toNat:Int)=92:=by omega
   (have ax:=d1;have z2:=d2;have z3:=d3;refine fY ?_;clear ax z2 z3)
   refine D.F ⟨[0],[0]⟩ (xb eh (.inr rfl) Y c _ rfl (by omega)) ?_
   refine ap ?_
   refine ay.fH (i+1) (by omega) ⟨rfl,rfl,rfl,by simp only[aT5]; rfl,trivial⟩ (by rw[qw]; exact⟨rfl,trivial⟩) (by rw[qw]; exact⟨rfl,trivial⟩) rfl rfl (by show s.length-(i+1)<s.length-i; omega)
 |none=>
  have ck:=List.getElem?_eq_none_iff.1 ad
  have ch:i=s.length:=by omega
  subst ch
  have d1: ¬(s.length:Int)<(s.length:Int):=by omega
  rw[aX9]at LB ⊢
  (have ax:=d1;refine bI ?_;clear ax)
  refine D.F ⟨[0],[0]⟩ (xb eh (.inr rfl) (34::kZ s) 34 34 rfl (by simp only[aT3]; omega)) ?_
  refine ap ?_
  refine D.F ⟨[0],[0]⟩ (t129 (T:=302) (A:= .ptr 0 0) (cs:=[]) trivial (34::kZ s++[34]) (by simp)) ?_
  refine ap ?_
  exact D.rx
end
section
attribute [local go_sem] au.di au.cQ au.er ao.di ao.cQ ao.er ca dB gz ht eb of_flat bQ.row dZ
theorem D.r3 {cN:Program}{anns:List I}{l:List bC}{env:Env}{c c2:aJ}{K:Env→aJ→Prop}{Rp:I→aJ→Prop}{f:FuncId}{args:List aH}{x:aH}{dA cap:List I}{v bp:I}{d:Nat}(s:bl){fg kl:ey}{fr kI:eA}{n q:Nat}(aO:cT cN f=true) (h:aY cN f dA (aJ.of n q fg fr) (c8 v kl kI)) (hk:ai cN anns l ((d,bp)::env) c2 K Rp)
  (U:bi env x= .fn f cap:=by simp (disch:=omega) only[go_sem,simprocAttr]<;>with_reducible rfl)
  (ah:(nodupB s.b&&nodupB s.t&&s.b.all (fun x=>Nat.blt x c.bN)&&s.t.all (fun x=>Nat.blt x c.bf))=true:=by simp (disch:=omega) only[go_sem,simprocAttr]<;>rfl) (bb:s.b.length=n:=by rfl) (aF:s.t.length=q:=by rfl) (hb:(dE n q dA&&(eP n q fg&&eQ n q fr))=true:=by simp (disch:=omega) only[go_sem,simprocAttr]<;>rfl) (h1:(eP n q kl&&(eQ n q kI&&v.dC n q))=true:=by simp (disch:=omega) only[go_sem,simprocAttr]<;>rfl)
  (eh:mL c.H.aV s fg:=by repeat first|exact trivial|refine⟨rfl,?_⟩) (dj:mM c.H.tok s fr:=by repeat first|exact trivial|refine⟨rfl,?_⟩) (aL:args.map (bi env)++cap=eO s dA:=by simp (disch:=omega) only[go_sem,simprocAttr]<;>rfl) (ad:v.ek s=bp:=by simp (disch:=omega) only[go_sem,simprocAttr]<;>with_reducible rfl) (hu:c.jR s kl kI=c2:=by simp (disch:=omega) only[go_sem,simprocAttr]<;>with_reducible rfl):ai cN anns (⟨some d,none,.fx x args⟩::l) env c K Rp:=by
 subst ad hu
 exact ai.Ge rfl U aO (aY.oH s h bb aF ah eh dj hb h1 rfl) aL hk
def cW {α:Type}(g:α→Bool):List α→Nat→Int
 |[],_=> -1
 |x::l,i=>bif g x then cW g l (i+1) else (i:Int)
theorem NK {α:Type}(g:α→Bool): ∀(l:List α) (i:Nat),0≤cW g l i↔l.all g=false
 |[],_=>by simp [cW]
 |x::l,i=>by
  simp only[cW,aV0]
  have:=NK g l (i+1)
  cases h:g x with
  |true=>simpa using this
  |false=>simp
theorem tT {α:Type}(g:α→Bool) (l:List α) (i:Nat):decide (0≤cW g l i)= !(l.all g):=by
 have:=NK g l i
 cases h:l.all g with
 |true=>rw[h]at this; simpa using this
 |false=>rw[h]at this; simpa using this
theorem Y5:cT aS9 305=true:=by kernel_rfl
theorem aj9 {f:FuncId}(aO:cT aS9 f=true) (v:au) (b:Bool) (h:Pure aS9 f [.agg (au.row v)] (.bool b)):aY aS9 305 [.agg (au.row v),.ptr 0 0] (aJ.of 1 0 [(0,296,[.fn f []])] []) (c8 (.bool (!b)) [(0,296,[.fn f []])] []):=by
 rcases v with ⟨iY,jc,ja,jd,jb,iZ⟩
 simp(disch:=omega)only[go_sem,simprocAttr]at h
 refine aY.intro bk Tryz.func305 TE ?_
 unfold JI Pm
 simp(disch:=omega)only[go_sem,simprocAttr]
 refine ap ?_
 refine D.V (aO) (h) ?_
 refine ap ?_
 refine D.r ?_
 exact⟨rfl,⟨rfl,trivial⟩,trivial⟩
theorem ak4 {f:FuncId}(aO:cT aS9 f=true) (g:au→Bool) (l:List (au)) (aE:l.length≤1000000000000) (h: ∀v∈l,Pure aS9 f [.agg (au.row v)] (.bool (g v))):aY aS9 359 [.ak 6 (l.map au.row),.fn 305 [.ptr 0 0]] (aJ.of 1 0 [(0,296,[.fn f []])] []) (c8 (.int .i64 (cW g l 0)) [(0,296,[.fn f []])] []):=by
 refine aY.intro bk Tryz.func359 TT ?_
 unfold JU PB
 simp(disch:=omega)only[go_sem,simprocAttr]
 refine ap ?_
 refine ay.dq (X:=Nat) 0 (fun i=>[(0,.ak 6 (l.map au.row)),(1,.fn 305 [.ptr 0 0]),(7,.int .i64 ((l.map au.row).length:Int)),(8,.int .i64 (i:Int))]) (fun _=>[(0,296,[.fn f []])]) (fun _=>[]) (fun i=>i≤l.length∧cW g (l.drop i) i=cW g l 0) (fun i=>l.length-i) ⟨aT8 _,rfl⟩ ⟨rfl,rfl,rfl,rfl,trivial⟩ ⟨rfl,trivial⟩ trivial ?_
 rintro i ⟨ae,aD⟩
 try simp only at ae aD ⊢
 cases ad:l[i]? with
 |some v=>
  have cL:=(List.getElem?_eq_some_iff.1 ad).1
  rw[fe ad]at aD
  simp only[cW]at aD
  have d1:(i:Int)<((l.map au.row).length:Int):=by rw[aT1]; omega
  have e:=aj9 aO v (g v) (h v (aT6 ad))
  generalize g v=b at e aD
  clear h
  rcases v with ⟨iY,jc,ja,jd,jb,iZ⟩
  simp(disch:=omega)only[go_sem,simprocAttr]at e
  (have ax:=d1;refine bI ?_;clear ax)
  refine D.r3 ⟨[0],[]⟩ Y5 e ?_
  cases b
  ·refine ap ?_
   refine D.r ?_
   exact⟨by rw[←aD]; rfl,⟨rfl,trivial⟩,trivial⟩
  ·refine ap ?_
   refine ay.fH (i+1) ⟨by omega,aD⟩ ⟨rfl,rfl,rfl,by simp only[aT5]; rfl,trivial⟩ ⟨rfl,trivial⟩ trivial rfl rfl (by show l.length-(i+1)<l.length-i; omega)
 |none=>
  have ck:=List.getElem?_eq_none_iff.1 ad
  have ch:i=l.length:=by omega
  subst ch
  have d1: ¬(l.length:Int)<((l.map au.row).length:Int):=by rw[aT1]; omega
  rw[aY2]at aD
  (have ax:=d1;refine bI ?_;clear ax)
  refine D.r ?_
  exact⟨by rw[←aD]; rfl,⟨rfl,trivial⟩,trivial⟩
theorem aj8 {f:FuncId}(aO:cT aS9 f=true) (g:au→Bool) (l:List (au)) (aE:l.length≤1000000000000) (h: ∀v∈l,Pure aS9 f [.agg (au.row v)] (.bool (g v))):aY aS9 304 [.ak 6 (l.map au.row),.fn 305 [.ptr 0 0]] (aJ.of 1 0 [(0,296,[.fn f []])] []) (c8 (.bool (!(l.all g))) [(0,296,[.fn f []])] []):=by
 have e:=ak4 aO g l aE h
 refine aY.intro bk Tryz.func304 TD ?_
 unfold JH Pl
 simp(disch:=omega)only[go_sem,simprocAttr]
 refine ap ?_
 refine D.F ⟨[0],[]⟩ (e) ?_
 refine ap ?_
 refine D.r ?_
 exact⟨by rw[←tT g l 0],⟨rfl,trivial⟩,trivial⟩
theorem E5 {f:FuncId}(aO:cT aS9 f=true) (g:au→Bool) (l:List (au)) (aE:l.length≤1000000000000) (h: ∀v∈l,Pure aS9 f [.agg (au.row v)] (.bool (g v))):Pure aS9 214 [.ak 6 (l.map au.row),.fn f []] (.bool (l.all g)):=by
 have e:=aj8 aO g l aE h
 refine dt bk Tryz.func214 Tb (by simp only[b9,I.flat,au.cQ,aT7]) rfl ?_
 unfold Jg OS
 simp(disch:=omega)only[go_sem,simprocAttr]
 refine ap ?_
 refine D.F ⟨[0],[]⟩ (e) ?_
 refine ap ?_
 refine D.r ?_
 exact⟨_,rfl,.aQ (by rw[bf6]; rfl) rfl,trivial,trivial⟩
theorem Y4:cT aS9 301=true:=by kernel_rfl
theorem aj6 {f:FuncId}(aO:cT aS9 f=true) (v:ao) (b:Bool) (h:Pure aS9 f [.agg (ao.row v)] (.bool b)):aY aS9 301 [.agg (ao.row v),.ptr 0 0] (aJ.of 1 0 [(0,293,[.fn f []])] []) (c8 (.bool (!b)) [(0,293,[.fn f []])] []):=by
 rcases v with ⟨k,hF,⟨iY,jc,ja,jd,jb,iZ⟩,ax9,jO,k0⟩
 simp(disch:=omega)only[go_sem,simprocAttr]at h
 refine aY.intro bk Tryz.func301 TB ?_
 unfold JF Pj
 simp(disch:=omega)only[go_sem,simprocAttr]
 refine ap ?_
 refine D.V (aO) (h) ?_
 refine ap ?_
 refine D.r ?_
 exact⟨rfl,⟨rfl,trivial⟩,trivial⟩
theorem ak3 {f:FuncId}(aO:cT aS9 f=true) (g:ao→Bool) (l:List (ao)) (aE:l.length≤1000000000000) (h: ∀v∈l,Pure aS9 f [.agg (ao.row v)] (.bool (g v))):aY aS9 358 [.ak 11 (l.map ao.row),.fn 301 [.ptr 0 0]] (aJ.of 1 0 [(0,293,[.fn f []])] []) (c8 (.int .i64 (cW g l 0)) [(0,293,[.fn f []])] []):=by
 refine aY.intro bk Tryz.func358 TS ?_
 unfold JT PA
 simp(disch:=omega)only[go_sem,simprocAttr]
 refine ap ?_
 refine ay.dq (X:=Nat) 0 (fun i=>[(0,.ak 11 (l.map ao.row)),(1,.fn 301 [.ptr 0 0]),(7,.int .i64 ((l.map ao.row).length:Int)),(8,.int .i64 (i:Int))]) (fun _=>[(0,293,[.fn f []])]) (fun _=>[]) (fun i=>i≤l.length∧cW g (l.drop i) i=cW g l 0) (fun i=>l.length-i) ⟨aT8 _,rfl⟩ ⟨rfl,rfl,rfl,rfl,trivial⟩ ⟨rfl,trivial⟩ trivial ?_
 rintro i ⟨ae,aD⟩
 try simp only at ae aD ⊢
 cases ad:l[i]? with
 |some v=>
  have cL:=(List.getElem?_eq_some_iff.1 ad).1
  rw[fe ad]at aD
  simp only[cW]at aD
  have d1:(i:Int)<((l.map ao.row).length:Int):=by rw[aT1]; omega
  have e:=aj6 aO v (g v) (h v (aT6 ad))
  generalize g v=b at e aD
  clear h
  rcases v with ⟨k,hF,⟨iY,jc,ja,jd,jb,iZ⟩,ax9,jO,k0⟩
  simp(disch:=omega)only[go_sem,simprocAttr]at e
  (have ax:=d1;refine bI ?_;clear ax)
  refine D.r3 ⟨[0],[]⟩ Y4 e ?_
  cases b
  ·refine ap ?_
   refine D.r ?_
   exact⟨by rw[←aD]; rfl,⟨rfl,trivial⟩,trivial⟩
  ·refine ap ?_
   refine ay.fH (i+1) ⟨by omega,aD⟩ ⟨rfl,rfl,rfl,by simp only[aT5]; rfl,trivial⟩ ⟨rfl,trivial⟩ trivial rfl rfl (by show l.length-(i+1)<l.length-i; omega)
 |none=>
  have ck:=List.getElem?_eq_none_iff.1 ad
  have ch:i=l.length:=by omega
  subst ch
  have d1: ¬(l.length:Int)<((l.map ao.row).length:Int):=by rw[aT1]; omega
  rw[aY2]at aD
  (have ax:=d1;refine bI ?_;clear ax)
  refine D.r ?_
  exact⟨by rw[←aD]; rfl,⟨rfl,trivial⟩,trivial⟩
theorem aj4 {f:FuncId}(aO:cT aS9 f=true) (g:ao→Bool) (l:List (ao)) (aE:l.length≤1000000000000) (h: ∀v∈l,Pure aS9 f [.agg (ao.row v)] (.bool (g v))):aY aS9 300 [.ak 11 (l.map ao.row),.fn 301 [.ptr 0 0]] (aJ.of 1 0 [(0,293,[.fn f []])] []) (c8 (.bool (!(l.all g))) [(0,293,[.fn f []])] []):=by
 have e:=ak3 aO g l aE h
 refine aY.intro bk Tryz.func300 TA ?_
 unfold JE Ph
 simp(disch:=omega)only[go_sem,simprocAttr]
 refine ap ?_
 refine D.F ⟨[0],[]⟩ (e) ?_
 refine ap ?_
 refine D.r ?_
 exact⟨by rw[←tT g l 0],⟨rfl,trivial⟩,trivial⟩
theorem By {f:FuncId}(aO:cT aS9 f=true) (g:ao→Bool) (l:List (ao)) (aE:l.length≤1000000000000) (h: ∀v∈l,Pure aS9 f [.agg (ao.row v)] (.bool (g v))):Pure aS9 207 [.ak 11 (l.map ao.row),.fn f []] (.bool (l.all g)):=by
 have e:=aj4 aO g l aE h
 refine dt bk Tryz.func207 S3 (by simp only[b9,I.flat,ao.cQ,aT7]) rfl ?_
 unfold I9 OK
 simp(disch:=omega)only[go_sem,simprocAttr]
 refine ap ?_
 refine D.F ⟨[0],[]⟩ (e) ?_
 refine ap ?_
 refine D.r ?_
 exact⟨_,rfl,.aQ (by rw[bf6]; rfl) rfl,trivial,trivial⟩
theorem YV:cT aS9 199=true:=by kernel_rfl
theorem ah5 {f:FuncId}(aO:cT aS9 f=true) (v:bQ) (b:Bool) (h:Pure aS9 f [.agg (bQ.row v)] (.bool b)):aY aS9 199 [.agg (bQ.row v),.ptr 0 0] (aJ.of 1 0 [(0,211,[.fn f []])] []) (c8 (.bool (!b)) [(0,211,[.fn f []])] []):=by
 simp(disch:=omega)only[go_sem,simprocAttr]at h
 refine aY.intro bk Tryz.func199 SU ?_
 unfold I1 OC
 simp(disch:=omega)only[go_sem,simprocAttr]
 refine ap ?_
 refine D.V (aO) (h) ?_
 refine ap ?_
 refine D.r ?_
 exact⟨rfl,⟨rfl,trivial⟩,trivial⟩
theorem ai7 {f:FuncId}(aO:cT aS9 f=true) (g:bQ→Bool) (l:List (bQ)) (aE:l.length≤1000000000000) (h: ∀v∈l,Pure aS9 f [.agg (bQ.row v)] (.bool (g v))):aY aS9 261 [.ak 7 (l.map bQ.row),.fn 199 [.ptr 0 0]] (aJ.of 1 0 [(0,211,[.fn f []])] []) (c8 (.int .i64 (cW g l 0)) [(0,211,[.fn f []])] []):=by
 refine aY.intro bk Tryz.func261 Hr ?_
 unfold Dh Fi
 simp(disch:=omega)only[go_sem,simprocAttr]
 refine ap ?_
 refine ay.dq (X:=Nat) 0 (fun i=>[(0,.ak 7 (l.map bQ.row)),(1,.fn 199 [.ptr 0 0]),(7,.int .i64 ((l.map bQ.row).length:Int)),(8,.int .i64 (i:Int))]) (fun _=>[(0,211,[.fn f []])]) (fun _=>[]) (fun i=>i≤l.length∧cW g (l.drop i) i=cW g l 0) (fun i=>l.length-i) ⟨aT8 _,rfl⟩ ⟨rfl,rfl,rfl,rfl,trivial⟩ ⟨rfl,trivial⟩ trivial ?_
 rintro i ⟨ae,aD⟩
 try simp only at ae aD ⊢
 cases ad:l[i]? with
 |some v=>
  have cL:=(List.getElem?_eq_some_iff.1 ad).1
  rw[fe ad]at aD
  simp only[cW]at aD
  have d1:(i:Int)<((l.map bQ.row).length:Int):=by rw[aT1]; omega
  have e:=ah5 aO v (g v) (h v (aT6 ad))
  generalize g v=b at e aD
  clear h
  simp(disch:=omega)only[go_sem,simprocAttr]at e
  (have ax:=d1;refine bI ?_;clear ax)
  refine D.r3 ⟨[0],[]⟩ YV e ?_
  cases b
  ·refine ap ?_
   refine D.r ?_
   exact⟨by rw[←aD]; rfl,⟨rfl,trivial⟩,trivial⟩
  ·refine ap ?_
   refine ay.fH (i+1) ⟨by omega,aD⟩ ⟨rfl,rfl,rfl,by simp only[aT5]; rfl,trivial⟩ ⟨rfl,trivial⟩ trivial rfl rfl (by show l.length-(i+1)<l.length-i; omega)
 |none=>
  have ck:=List.getElem?_eq_none_iff.1 ad
  have ch:i=l.length:=by omega
  subst ch
  have d1: ¬(l.length:Int)<((l.map bQ.row).length:Int):=by rw[aT1]; omega
  rw[aY2]at aD
  (have ax:=d1;refine bI ?_;clear ax)
  refine D.r ?_
  exact⟨by rw[←aD]; rfl,⟨rfl,trivial⟩,trivial⟩
theorem ah4 {f:FuncId}(aO:cT aS9 f=true) (g:bQ→Bool) (l:List (bQ)) (aE:l.length≤1000000000000) (h: ∀v∈l,Pure aS9 f [.agg (bQ.row v)] (.bool (g v))):aY aS9 162 [.ak 7 (l.map bQ.row),.fn 199 [.ptr 0 0]] (aJ.of 1 0 [(0,211,[.fn f []])] []) (c8 (.bool (!(l.all g))) [(0,211,[.fn f []])] []):=by
 have e:=ai7 aO g l aE h
 refine aY.intro bk Tryz.func162 Ho ?_
 unfold Dc Fe
 simp(disch:=omega)only[go_sem,simprocAttr]
 refine ap ?_
 refine D.F ⟨[0],[]⟩ (e) ?_
 refine ap ?_
 refine D.r ?_
 exact⟨by rw[←tT g l 0],⟨rfl,trivial⟩,trivial⟩
theorem ak5 {f:FuncId}(aO:cT aS9 f=true) (g:bQ→Bool) (l:List (bQ)) (aE:l.length≤1000000000000) (h: ∀v∈l,Pure aS9 f [.agg (bQ.row v)] (.bool (g v))):Pure aS9 110 [.ak 7 (l.map bQ.row),.fn f []] (.bool (l.all g)):=by
 have e:=ah4 aO g l aE h
 refine dt bk Tryz.func110 Sr (by simp only[b9,I.flat,dZ,aT7]) rfl ?_
 unfold Iy N6
 simp(disch:=omega)only[go_sem,simprocAttr]
 refine ap ?_
 refine D.F ⟨[0],[]⟩ (e) ?_
 refine ap ?_
 refine D.r ?_
 exact⟨_,rfl,.aQ (by rw[bf6]; rfl) rfl,trivial,trivial⟩
theorem YW:cT aS9 202=true:=by kernel_rfl
theorem ah7 {f:FuncId}(aO:cT aS9 f=true) (v:bK) (b:Bool) (h:Pure aS9 f [.agg (bK.row v)] (.bool b)):aY aS9 202 [.agg (bK.row v),.ptr 0 0] (aJ.of 1 0 [(0,198,[.fn f []])] []) (c8 (.bool (!b)) [(0,198,[.fn f []])] []):=by
 simp(disch:=omega)only[go_sem,simprocAttr]at h
 refine aY.intro bk Tryz.func202 SY ?_
 unfold I4 OF
 simp(disch:=omega)only[go_sem,simprocAttr]
 refine ap ?_
 refine D.V (aO) (h) ?_
 refine ap ?_
 refine D.r ?_
 exact⟨rfl,⟨rfl,trivial⟩,trivial⟩
theorem ai8 {f:FuncId}(aO:cT aS9 f=true) (g:bK→Bool) (l:List (bK)) (aE:l.length≤1000000000000) (h: ∀v∈l,Pure aS9 f [.agg (bK.row v)] (.bool (g v))):aY aS9 183 [.ak 4 (l.map bK.row),.fn 202 [.ptr 0 0]] (aJ.of 1 0 [(0,198,[.fn f []])] []) (c8 (.int .i64 (cW g l 0)) [(0,198,[.fn f []])] []):=by
 refine aY.intro bk Tryz.func183 CD ?_
 unfold Ax BC
 simp(disch:=omega)only[go_sem,simprocAttr]
 refine ap ?_
 refine ay.dq (X:=Nat) 0 (fun i=>[(0,.ak 4 (l.map bK.row)),(1,.fn 202 [.ptr 0 0]),(7,.int .i64 ((l.map bK.row).length:Int)),(8,.int .i64 (i:Int))]) (fun _=>[(0,198,[.fn f []])]) (fun _=>[]) (fun i=>i≤l.length∧cW g (l.drop i) i=cW g l 0) (fun i=>l.length-i) ⟨aT8 _,rfl⟩ ⟨rfl,rfl,rfl,rfl,trivial⟩ ⟨rfl,trivial⟩ trivial ?_
 rintro i ⟨ae,aD⟩
 try simp only at ae aD ⊢
 cases ad:l[i]? with
 |some v=>
  have cL:=(List.getElem?_eq_some_iff.1 ad).1
  rw[fe ad]at aD
  simp only[cW]at aD
  have d1:(i:Int)<((l.map bK.row).length:Int):=by rw[aT1]; omega
  have e:=ah7 aO v (g v) (h v (aT6 ad))
  generalize g v=b at e aD
  clear h
  simp(disch:=omega)only[go_sem,simprocAttr]at e
  (have ax:=d1;refine bI ?_;clear ax)
  refine D.r3 ⟨[0],[]⟩ YW e ?_
  cases b
  ·refine ap ?_
   refine D.r ?_
   exact⟨by rw[←aD]; rfl,⟨rfl,trivial⟩,trivial⟩
  ·refine ap ?_
   refine ay.fH (i+1) ⟨by omega,aD⟩ ⟨rfl,rfl,rfl,by simp only[aT5]; rfl,trivial⟩ ⟨rfl,trivial⟩ trivial rfl rfl (by show l.length-(i+1)<l.length-i; omega)
 |none=>
  have ck:=List.getElem?_eq_none_iff.1 ad
  have ch:i=l.length:=by omega
  subst ch
  have d1: ¬(l.length:Int)<((l.map bK.row).length:Int):=by rw[aT1]; omega
  rw[aY2]at aD
  (have ax:=d1;refine bI ?_;clear ax)
  refine D.r ?_
  exact⟨by rw[←aD]; rfl,⟨rfl,trivial⟩,trivial⟩
theorem ah6 {f:FuncId}(aO:cT aS9 f=true) (g:bK→Bool) (l:List (bK)) (aE:l.length≤1000000000000) (h: ∀v∈l,Pure aS9 f [.agg (bK.row v)] (.bool (g v))):aY aS9 96 [.ak 4 (l.map bK.row),.fn 202 [.ptr 0 0]] (aJ.of 1 0 [(0,198,[.fn f []])] []) (c8 (.bool (!(l.all g))) [(0,198,[.fn f []])] []):=by
 have e:=ai8 aO g l aE h
 refine aY.intro bk Tryz.func96 CI ?_
 unfold tl BI
 simp(disch:=omega)only[go_sem,simprocAttr]
 refine ap ?_
 refine D.F ⟨[0],[]⟩ (e) ?_
 refine ap ?_
 refine D.r ?_
 exact⟨by rw[←tT g l 0],⟨rfl,trivial⟩,trivial⟩
theorem ak7 {f:FuncId}(aO:cT aS9 f=true) (g:bK→Bool) (l:List (bK)) (aE:l.length≤1000000000000) (h: ∀v∈l,Pure aS9 f [.agg (bK.row v)] (.bool (g v))):Pure aS9 112 [.ak 4 (l.map bK.row),.fn f []] (.bool (l.all g)):=by
 have e:=ah6 aO g l aE h
 refine dt bk Tryz.func112 St (by simp only[b9,I.flat,eb,aT7]) rfl ?_
 unfold IA N8
 simp(disch:=omega)only[go_sem,simprocAttr]
 refine ap ?_
 refine D.F ⟨[0],[]⟩ (e) ?_
 refine ap ?_
 refine D.r ?_
 exact⟨_,rfl,.aQ (by rw[bf6]; rfl) rfl,trivial,trivial⟩
theorem YY:cT aS9 210=true:=by kernel_rfl
theorem ai1 {f:FuncId}(aO:cT aS9 f=true) (v:cC) (b:Bool) (h:Pure aS9 f [.agg (cC.row v)] (.bool b)):aY aS9 210 [.agg (cC.row v),.ptr 0 0] (aJ.of 1 0 [(0,213,[.fn f []])] []) (c8 (.bool (!b)) [(0,213,[.fn f []])] []):=by
 simp(disch:=omega)only[go_sem,simprocAttr]at h
 refine aY.intro bk Tryz.func210 S7 ?_
 unfold Jc OO
 simp(disch:=omega)only[go_sem,simprocAttr]
 refine ap ?_
 refine D.V (aO) (h) ?_
 refine ap ?_
 refine D.r ?_
 exact⟨rfl,⟨rfl,trivial⟩,trivial⟩
theorem aj7 {f:FuncId}(aO:cT aS9 f=true) (g:cC→Bool) (l:List (cC)) (aE:l.length≤1000000000000) (h: ∀v∈l,Pure aS9 f [.agg (cC.row v)] (.bool (g v))):aY aS9 302 [.ak 4 (l.map cC.row),.fn 210 [.ptr 0 0]] (aJ.of 1 0 [(0,213,[.fn f []])] []) (c8 (.int .i64 (cW g l 0)) [(0,213,[.fn f []])] []):=by
 refine aY.intro bk Tryz.func302 TC ?_
 unfold JG Pk
 simp(disch:=omega)only[go_sem,simprocAttr]
 refine ap ?_
 refine ay.dq (X:=Nat) 0 (fun i=>[(0,.ak 4 (l.map cC.row)),(1,.fn 210 [.ptr 0 0]),(7,.int .i64 ((l.map cC.row).length:Int)),(8,.int .i64 (i:Int))]) (fun _=>[(0,213,[.fn f []])]) (fun _=>[]) (fun i=>i≤l.length∧cW g (l.drop i) i=cW g l 0) (fun i=>l.length-i) ⟨aT8 _,rfl⟩ ⟨rfl,rfl,rfl,rfl,trivial⟩ ⟨rfl,trivial⟩ trivial ?_
 rintro i ⟨ae,aD⟩
 try simp only at ae aD ⊢
 cases ad:l[i]? with
 |some v=>
  have cL:=(List.getElem?_eq_some_iff.1 ad).1
  rw[fe ad]at aD
  simp only[cW]at aD
  have d1:(i:Int)<((l.map cC.row).length:Int):=by rw[aT1]; omega
  have e:=ai1 aO v (g v) (h v (aT6 ad))
  generalize g v=b at e aD
  clear h
  simp(disch:=omega)only[go_sem,simprocAttr]at e
  (have ax:=d1;refine bI ?_;clear ax)
  refine D.r3 ⟨[0],[]⟩ YY e ?_
  cases b
  ·refine ap ?_
   refine D.r ?_
   exact⟨by rw[←aD]; rfl,⟨rfl,trivial⟩,trivial⟩
  ·refine ap ?_
   refine ay.fH (i+1) ⟨by omega,aD⟩ ⟨rfl,rfl,rfl,by simp only[aT5]; rfl,trivial⟩ ⟨rfl,trivial⟩ trivial rfl rfl (by show l.length-(i+1)<l.length-i; omega)
 |none=>
  have ck:=List.getElem?_eq_none_iff.1 ad
  have ch:i=l.length:=by omega
  subst ch
  have d1: ¬(l.length:Int)<((l.map cC.row).length:Int):=by rw[aT1]; omega
  rw[aY2]at aD
  (have ax:=d1;refine bI ?_;clear ax)
  refine D.r ?_
  exact⟨by rw[←aD]; rfl,⟨rfl,trivial⟩,trivial⟩
theorem ai0 {f:FuncId}(aO:cT aS9 f=true) (g:cC→Bool) (l:List (cC)) (aE:l.length≤1000000000000) (h: ∀v∈l,Pure aS9 f [.agg (cC.row v)] (.bool (g v))):aY aS9 209 [.ak 4 (l.map cC.row),.fn 210 [.ptr 0 0]] (aJ.of 1 0 [(0,213,[.fn f []])] []) (c8 (.bool (!(l.all g))) [(0,213,[.fn f []])] []):=by
 have e:=aj7 aO g l aE h
 refine aY.intro bk Tryz.func209 S5 ?_
 unfold Jb OM
 simp(disch:=omega)only[go_sem,simprocAttr]
 refine ap ?_
 refine D.F ⟨[0],[]⟩ (e) ?_
 refine ap ?_
 refine D.r ?_
 exact⟨by rw[←tT g l 0],⟨rfl,trivial⟩,trivial⟩
theorem ak9 {f:FuncId}(aO:cT aS9 f=true) (g:cC→Bool) (l:List (cC)) (aE:l.length≤1000000000000) (h: ∀v∈l,Pure aS9 f [.agg (cC.row v)] (.bool (g v))):Pure aS9 114 [.ak 4 (l.map cC.row),.fn f []] (.bool (l.all g)):=by
 have e:=ai0 aO g l aE h
 refine dt bk Tryz.func114 Sv (by simp only[b9,I.flat,of_flat,aT7]) rfl ?_
 unfold IC Oa
 simp(disch:=omega)only[go_sem,simprocAttr]
 refine ap ?_
 refine D.F ⟨[0],[]⟩ (e) ?_
 refine ap ?_
 refine D.r ?_
 exact⟨_,rfl,.aQ (by rw[bf6]; rfl) rfl,trivial,trivial⟩
theorem Y3:cT aS9 299=true:=by kernel_rfl
theorem aj3 {f:FuncId}(aO:cT aS9 f=true) (v:List UInt8) (b:Bool) (h:Pure aS9 f [.str v] (.bool b)):aY aS9 299 [.str v,.ptr 0 0] (aJ.of 1 0 [(0,174,[.fn f []])] []) (c8 (.bool (!b)) [(0,174,[.fn f []])] []):=by
 refine aY.intro bk Tryz.func299 Ty ?_
 unfold JC Pf
 simp(disch:=omega)only[go_sem,simprocAttr]
 refine ap ?_
 refine D.V (aO) (h) ?_
 refine ap ?_
 refine D.r ?_
 exact⟨rfl,⟨rfl,trivial⟩,trivial⟩
theorem ak1 {f:FuncId}(aO:cT aS9 f=true) (g:List UInt8→Bool) (l:List (List UInt8)) (aE:l.length≤1000000000000) (h: ∀v∈l,Pure aS9 f [.str v] (.bool (g v))):aY aS9 356 [.ak 1 (l.map ca),.fn 299 [.ptr 0 0]] (aJ.of 1 0 [(0,174,[.fn f []])] []) (c8 (.int .i64 (cW g l 0)) [(0,174,[.fn f []])] []):=by
 refine aY.intro bk Tryz.func356 Hv ?_
 unfold Dl Fm
 simp(disch:=omega)only[go_sem,simprocAttr]
 refine ap ?_
 refine ay.dq (X:=Nat) 0 (fun i=>[(0,.ak 1 (l.map ca)),(1,.fn 299 [.ptr 0 0]),(7,.int .i64 ((l.map ca).length:Int)),(8,.int .i64 (i:Int))]) (fun _=>[(0,174,[.fn f []])]) (fun _=>[]) (fun i=>i≤l.length∧cW g (l.drop i) i=cW g l 0) (fun i=>l.length-i) ⟨aT8 _,rfl⟩ ⟨rfl,rfl,rfl,rfl,trivial⟩ ⟨rfl,trivial⟩ trivial ?_
 rintro i ⟨ae,aD⟩
 try simp only at ae aD ⊢
 cases ad:l[i]? with
 |some v=>
  have cL:=(List.getElem?_eq_some_iff.1 ad).1
  rw[fe ad]at aD
  simp only[cW]at aD
  have d1:(i:Int)<((l.map ca).length:Int):=by rw[aT1]; omega
  have e:=aj3 aO v (g v) (h v (aT6 ad))
  generalize g v=b at e aD
  clear h
  (have ax:=d1;refine bI ?_;clear ax)
  refine D.r3 ⟨[0],[]⟩ Y3 e ?_
  cases b
  ·refine ap ?_
   refine D.r ?_
   exact⟨by rw[←aD]; rfl,⟨rfl,trivial⟩,trivial⟩
  ·refine ap ?_
   refine ay.fH (i+1) ⟨by omega,aD⟩ ⟨rfl,rfl,rfl,by simp only[aT5]; rfl,trivial⟩ ⟨rfl,trivial⟩ trivial rfl rfl (by show l.length-(i+1)<l.length-i; omega)
 |none=>
  have ck:=List.getElem?_eq_none_iff.1 ad
  have ch:i=l.length:=by omega
  subst ch
  have d1: ¬(l.length:Int)<((l.map ca).length:Int):=by rw[aT1]; omega
  rw[aY2]at aD
  (have ax:=d1;refine bI ?_;clear ax)
  refine D.r ?_
  exact⟨by rw[←aD]; rfl,⟨rfl,trivial⟩,trivial⟩
theorem aj0 {f:FuncId}(aO:cT aS9 f=true) (g:List UInt8→Bool) (l:List (List UInt8)) (aE:l.length≤1000000000000) (h: ∀v∈l,Pure aS9 f [.str v] (.bool (g v))):aY aS9 296 [.ak 1 (l.map ca),.fn 299 [.ptr 0 0]] (aJ.of 1 0 [(0,174,[.fn f []])] []) (c8 (.bool (!(l.all g))) [(0,174,[.fn f []])] []):=by
 have e:=ak1 aO g l aE h
 refine aY.intro bk Tryz.func296 Ht ?_
 unfold Dj Fk
 simp(disch:=omega)only[go_sem,simprocAttr]
 refine ap ?_
 refine D.F ⟨[0],[]⟩ (e) ?_
 refine ap ?_
 refine D.r ?_
 exact⟨by rw[←tT g l 0],⟨rfl,trivial⟩,trivial⟩
theorem ah9 {f:FuncId}(aO:cT aS9 f=true) (g:List UInt8→Bool) (l:List (List UInt8)) (aE:l.length≤1000000000000) (h: ∀v∈l,Pure aS9 f [.str v] (.bool (g v))):Pure aS9 206 [.ak 1 (l.map ca),.fn f []] (.bool (l.all g)):=by
 have e:=aj0 aO g l aE h
 refine dt bk Tryz.func206 S2 (by simp only[b9,I.flat,dB,aT7]) rfl ?_
 unfold I8 OJ
 simp(disch:=omega)only[go_sem,simprocAttr]
 refine ap ?_
 refine D.F ⟨[0],[]⟩ (e) ?_
 refine ap ?_
 refine D.r ?_
 exact⟨_,rfl,.aQ (by rw[bf6]; rfl) rfl,trivial,trivial⟩
end
section
attribute [local go_sem] au.di au.cQ au.er ao.di ao.cQ ao.er ca dB gz ht eb of_flat bQ.row dZ
def sR (s:bT):Bool:=decide (s.length≤40)&&s.all ev
def sh (n:Int):Bool:=decide (-999999≤n)&&decide (n≤999999)
theorem E1 (n:Int):Pure aS9 200 [.int .i64 n] (.bool (sh n)):=by
  refine dt bk Tryz.func200 SV rfl rfl ?_
  unfold I2 OD
  simp(disch:=omega)only[go_sem,simprocAttr]
  (repeat' first|refine D.S ?_|refine D.iv true true ?_|refine ai.nil ?_|refine ay.dr ?_|refine D.W ?_|refine D.Z ?_|refine D.G ?_ ?_|refine D.X ‹_› ?_|refine D.jU ‹_› ?_|refine D.jV ‹_› ?_|intro h|refine D.C ?_ ?_)
  all_goals (refine D.R ?_; refine⟨_,rfl,.aQ ?_ rfl,trivial,trivial⟩; simp_all [sh,I.aQ]<;>(try omega))
theorem NT (s:bT):Pure aS9 201 [.str s] (.bool (sR s)):=by
  refine dt bk Tryz.func201 SX rfl rfl ?_
  unfold I3 OE
  simp(disch:=omega)only[go_sem,simprocAttr]
  (repeat' first|refine D.S ?_|refine D.iv true true ?_|refine ai.nil ?_|refine ay.dr ?_|refine D.W ?_|refine D.Z ?_|refine D.G ?_ ?_|refine D.X ‹_› ?_|refine D.jU ‹_› ?_|refine D.jV ‹_› ?_|intro h|refine D.C ?_ ?_)
  ·refine D.P (ad4 s) ?_
   refine ap ?_
   refine D.r ?_
   refine⟨_,rfl,.aQ ?_ rfl,trivial,trivial⟩
   simp only[decide_eq_true_eq]at h
   have J:s.length≤40:=by omega
   simp [sR,J,I.aQ]
  ·refine D.r ?_
   refine⟨_,rfl,.aQ ?_ rfl,trivial,trivial⟩
   simp only[decide_eq_false_iff_not]at h
   have J: ¬s.length≤40:=by omega
   simp [sR,J,I.aQ]
def gA (k:Int) (o m t:bT) (n:Int) (kW:Nat):Bool:=
  if k=1 then decide (0≤n)&&(decide (n≤1000)&&(decide (kW=0)&&(decide (o=[])&&(decide (m=[])&&decide (t=[])))))
  else if k=2 then sR t&&(decide (kW=0)&&(decide (o=[])&&(decide (m=[])&&decide (n=0))))
  else if k=3 then gC m&&(decide (kW=0)&&(decide (o=[])&&(decide (t=[])&&decide (n=0))))
  else if k=4 then decide (kW=1)&&(decide (o=[])&&(decide (m=[])&&(decide (t=[])&&decide (n=0))))
  else if k=5 then (decide (o=[45])||decide (o=[33]))&&(decide (kW=1)&&(decide (m=[])&&(decide (t=[])&&decide (n=0))))
  else if k=6 then !(decide (jM o=0))&&(decide (kW=2)&&(decide (m=[])&&(decide (t=[])&&decide (n=0))))
  else false
mutual
def iC:au→Bool
  | .mk k o m t n l=>gA k o m t n l.length&&nC l
def nC:List au→Bool
  |[]=>true
  |x::l=>iC x&&nC l
end
theorem AQ: ∀l,nC l=l.all iC
  |[]=>rfl
  |x::l=>by simp only[nC,aV0,AQ l]
theorem LY:cT aS9 215=true:=by kernel_rfl
theorem E6: ∀(N:Nat) (x:au),x.cJ≤N→N≤1000000000→Pure aS9 215 [.agg x.row] (.bool (iC x))
  |0,.mk k o m t n l,h,_=>by simp only[au.cJ]at h; omega
  |N+1,.mk k o m t n l,dl,l9=>by
   simp only[au.cJ]at dl
   have li:l.length≤1000000000:=by have:=au.iE l; omega
   have aj:=E5 LY iC l (by omega) fun v ad=>by
     obtain⟨i,ae⟩:=aW5 ad
     exact E6 N v (by have:=au.lQ ae; omega) (by omega)
   simp only[iC,AQ]
   generalize l.all iC=ru at aj
   have z0:((l.map au.row).length:Int)=(l.length:Int):=by rw[aT1]
   refine dt bk Tryz.func215 Tc (by simp only[b9,I.flat,au.er,aT7]) rfl ?_
   unfold Jh OT
   simp(disch:=omega)only[go_sem,simprocAttr]
   by_cases h1:k=1
   ·subst h1
    (repeat' first|(apply ai.s rfl;(·simp(disch:=omega)only[go_sem,simprocAttr,z0]<;>with_reducible rfl))|(apply ay.s true true;(·simp(disch:=omega)only[go_sem,simprocAttr,z0]<;>with_reducible rfl))|apply ai.nil|(refine ay.dr ?_)|(apply ai.fi;(·simp(disch:=omega)only[go_sem,simprocAttr,z0]<;>with_reducible rfl))|(apply ai.fj;(·rfl);(·simp(disch:=omega)only[go_sem,simprocAttr,z0]<;>with_reducible rfl))|(apply ai.gs;(·simp(disch:=omega)only[go_sem,simprocAttr,z0]<;>with_reducible rfl))|((first|apply ai.fl|apply ai.fm|apply ai.fo);(·simp(disch:=omega)only[go_sem,simprocAttr,z0]<;>with_reducible rfl);(·simp(disch:=omega)only[go_sem,simprocAttr,z0]<;>with_reducible rfl);(·assumption);(·omega))|intro h|(apply ay.cond;(·simp(disch:=omega)only[go_sem,simprocAttr,z0]<;>with_reducible rfl)))
    all_goals first
      |(refine D.R ?_
        refine⟨_,rfl,.aQ ?_ rfl,trivial,trivial⟩
        first
          |(simp_all [gA,I.aQ]; done)
          |(simp_all [gA,I.aQ]; intros; omega))
      |skip
    refine D.P (aj) ?_
    refine ap ?_
    refine D.r ?_
    refine⟨_,rfl,.aQ ?_ rfl,trivial,trivial⟩
    first
      |(simp_all [gA,I.aQ]; done)
      |(simp_all [gA,I.aQ]; intros; omega)
   by_cases J:k=2
   ·subst J
    (have ax:=z0;refine bI ?_;clear ax)
    refine D.P (NT t) ?_
    cases aF:sR t
    all_goals
      (repeat' first|(apply ai.s rfl;(·simp(disch:=omega)only[go_sem,simprocAttr,z0]<;>with_reducible rfl))|(apply ay.s true true;(·simp(disch:=omega)only[go_sem,simprocAttr,z0]<;>with_reducible rfl))|apply ai.nil|(refine ay.dr ?_)|(apply ai.fi;(·simp(disch:=omega)only[go_sem,simprocAttr,z0]<;>with_reducible rfl))|(apply ai.fj;(·rfl);(·simp(disch:=omega)only[go_sem,simprocAttr,z0]<;>with_reducible rfl))|(apply ai.gs;(·simp(disch:=omega)only[go_sem,simprocAttr,z0]<;>with_reducible rfl))|((first|apply ai.fl|apply ai.fm|apply ai.fo);(·simp(disch:=omega)only[go_sem,simprocAttr,z0]<;>with_reducible rfl);(·simp(disch:=omega)only[go_sem,simprocAttr,z0]<;>with_reducible rfl);(·assumption);(·omega))|intro h|(apply ay.cond;(·simp(disch:=omega)only[go_sem,simprocAttr,z0]<;>with_reducible rfl)))
    all_goals first
      |(refine D.R ?_
        refine⟨_,rfl,.aQ ?_ rfl,trivial,trivial⟩
        first
          |(simp_all [gA,I.aQ]; done)
          |(simp_all [gA,I.aQ]; intros; omega))
      |skip
    refine D.P (aj) ?_
    refine ap ?_
    refine D.r ?_
    refine⟨_,rfl,.aQ ?_ rfl,trivial,trivial⟩
    first
      |(simp_all [gA,I.aQ]; done)
      |(simp_all [gA,I.aQ]; intros; omega)
   by_cases aA:k=3
   ·subst aA
    (have ax:=z0;refine bI ?_;clear ax)
    refine D.P (oT m) ?_
    cases aF:gC m
    all_goals
      (repeat' first|(apply ai.s rfl;(·simp(disch:=omega)only[go_sem,simprocAttr,z0]<;>with_reducible rfl))|(apply ay.s true true;(·simp(disch:=omega)only[go_sem,simprocAttr,z0]<;>with_reducible rfl))|apply ai.nil|(refine ay.dr ?_)|(apply ai.fi;(·simp(disch:=omega)only[go_sem,simprocAttr,z0]<;>with_reducible rfl))|(apply ai.fj;(·rfl);(·simp(disch:=omega)only[go_sem,simprocAttr,z0]<;>with_reducible rfl))|(apply ai.gs;(·simp(disch:=omega)only[go_sem,simprocAttr,z0]<;>with_reducible rfl))|((first|apply ai.fl|apply ai.fm|apply ai.fo);(·simp(disch:=omega)only[go_sem,simprocAttr,z0]<;>with_reducible rfl);(·simp(disch:=omega)only[go_sem,simprocAttr,z0]<;>with_reducible rfl);(·assumption);(·omega))|intro h|(apply ay.cond;(·simp(disch:=omega)only[go_sem,simprocAttr,z0]<;>with_reducible rfl)))
    all_goals first
      |(refine D.R ?_
        refine⟨_,rfl,.aQ ?_ rfl,trivial,trivial⟩
        first
          |(simp_all [gA,I.aQ]; done)
          |(simp_all [gA,I.aQ]; intros; omega))
      |skip
    refine D.P (aj) ?_
    refine ap ?_
    refine D.r ?_
    refine⟨_,rfl,.aQ ?_ rfl,trivial,trivial⟩
    first
      |(simp_all [gA,I.aQ]; done)
      |(simp_all [gA,I.aQ]; intros; omega)
   by_cases bz:k=4
   ·subst bz
    (repeat' first|(apply ai.s rfl;(·simp(disch:=omega)only[go_sem,simprocAttr,z0]<;>with_reducible rfl))|(apply ay.s true true;(·simp(disch:=omega)only[go_sem,simprocAttr,z0]<;>with_reducible rfl))|apply ai.nil|(refine ay.dr ?_)|(apply ai.fi;(·simp(disch:=omega)only[go_sem,simprocAttr,z0]<;>with_reducible rfl))|(apply ai.fj;(·rfl);(·simp(disch:=omega)only[go_sem,simprocAttr,z0]<;>with_reducible rfl))|(apply ai.gs;(·simp(disch:=omega)only[go_sem,simprocAttr,z0]<;>with_reducible rfl))|((first|apply ai.fl|apply ai.fm|apply ai.fo);(·simp(disch:=omega)only[go_sem,simprocAttr,z0]<;>with_reducible rfl);(·simp(disch:=omega)only[go_sem,simprocAttr,z0]<;>with_reducible rfl);(·assumption);(·omega))|intro h|(apply ay.cond;(·simp(disch:=omega)only[go_sem,simprocAttr,z0]<;>with_reducible rfl)))
    all_goals first
      |(refine D.R ?_
        refine⟨_,rfl,.aQ ?_ rfl,trivial,trivial⟩
        first
          |(simp_all [gA,I.aQ]; done)
          |(simp_all [gA,I.aQ]; intros; omega))
      |skip
    refine D.P (aj) ?_
    refine ap ?_
    refine D.r ?_
    refine⟨_,rfl,.aQ ?_ rfl,trivial,trivial⟩
    first
      |(simp_all [gA,I.aQ]; done)
      |(simp_all [gA,I.aQ]; intros; omega)
   by_cases bZ:k=5
   ·subst bZ
    (repeat' first|(apply ai.s rfl;(·simp(disch:=omega)only[go_sem,simprocAttr,z0]<;>with_reducible rfl))|(apply ay.s true true;(·simp(disch:=omega)only[go_sem,simprocAttr,z0]<;>with_reducible rfl))|apply ai.nil|(refine ay.dr ?_)|(apply ai.fi;(·simp(disch:=omega)only[go_sem,simprocAttr,z0]<;>with_reducible rfl))|(apply ai.fj;(·rfl);(·simp(disch:=omega)only[go_sem,simprocAttr,z0]<;>with_reducible rfl))|(apply ai.gs;(·simp(disch:=omega)only[go_sem,simprocAttr,z0]<;>with_reducible rfl))|((first|apply ai.fl|apply ai.fm|apply ai.fo);(·simp(disch:=omega)only[go_sem,simprocAttr,z0]<;>with_reducible rfl);(·simp(disch:=omega)only[go_sem,simprocAttr,z0]<;>with_reducible rfl);(·assumption);(·omega))|intro h|(apply ay.cond;(·simp(disch:=omega)only[go_sem,simprocAttr,z0]<;>with_reducible rfl)))
    all_goals first
      |(refine D.R ?_
        refine⟨_,rfl,.aQ ?_ rfl,trivial,trivial⟩
        first
          |(simp_all [gA,I.aQ]; done)
          |(simp_all [gA,I.aQ]; intros; omega))
      |skip
    all_goals
      refine D.P (aj) ?_
      refine ap ?_
      refine D.r ?_
      refine⟨_,rfl,.aQ ?_ rfl,trivial,trivial⟩
      first
        |(simp_all [gA,I.aQ]; done)
        |(simp_all [gA,I.aQ]; intros; omega)
   by_cases ef:k=6
   ·subst ef
    (have ax:=z0;refine bI ?_;clear ax)
    refine D.P (E8 o) ?_
    (repeat' first|(apply ai.s rfl;(·simp(disch:=omega)only[go_sem,simprocAttr,z0]<;>with_reducible rfl))|(apply ay.s true true;(·simp(disch:=omega)only[go_sem,simprocAttr,z0]<;>with_reducible rfl))|apply ai.nil|(refine ay.dr ?_)|(apply ai.fi;(·simp(disch:=omega)only[go_sem,simprocAttr,z0]<;>with_reducible rfl))|(apply ai.fj;(·rfl);(·simp(disch:=omega)only[go_sem,simprocAttr,z0]<;>with_reducible rfl))|(apply ai.gs;(·simp(disch:=omega)only[go_sem,simprocAttr,z0]<;>with_reducible rfl))|((first|apply ai.fl|apply ai.fm|apply ai.fo);(·simp(disch:=omega)only[go_sem,simprocAttr,z0]<;>with_reducible rfl);(·simp(disch:=omega)only[go_sem,simprocAttr,z0]<;>with_reducible rfl);(·assumption);(·omega))|intro h|(apply ay.cond;(·simp(disch:=omega)only[go_sem,simprocAttr,z0]<;>with_reducible rfl)))
    all_goals first
      |(refine D.R ?_
        refine⟨_,rfl,.aQ ?_ rfl,trivial,trivial⟩
        first
          |(simp_all [gA,I.aQ]; done)
          |(simp_all [gA,I.aQ]; intros; omega))
      |skip
    refine D.P (aj) ?_
    refine ap ?_
    refine D.r ?_
    refine⟨_,rfl,.aQ ?_ rfl,trivial,trivial⟩
    first
      |(simp_all [gA,I.aQ]; done)
      |(simp_all [gA,I.aQ]; intros; omega)
   (have ax:=z0;have z2:=h1;have z3:=And.intro J (And.intro aA (And.intro bz (And.intro bZ ef)));refine fY ?_;clear ax z2 z3)
   refine D.r ?_
   refine⟨_,rfl,.aQ ?_ rfl,trivial,trivial⟩
   simp [gA,h1,J,aA,bz,bZ,ef,I.aQ]
end
section
attribute [local go_sem] au.di au.cQ au.er ao.di ao.cQ ao.er ca dB
mutual
def nv:au→Nat
 | .mk _ _ _ _ _ l=>1+sj l
def sj:List au→Nat
 |[]=>0
 |x::l=>max (nv x) (sj l)
end
mutual
theorem C1: ∀x:au,nv x≤x.cJ
 | .mk _ _ _ _ _ l=>by
  have:=C2 l
  simp only[nv,au.cJ]
  omega
theorem C2: ∀l:List au,sj l≤au.cf l
 |[]=>aT4 _
 |x::l=>by
  have:=C1 x
  have:=C2 l
  simp only[sj,au.cf]
  omega
end
theorem E4: ∀(N:Nat) (x:au),x.cJ≤N→N≤1000000000→Pure aS9 212 [.agg x.row] (.int .i64 (nv x:Int))
 |0,.mk k o m t n l,h,_=>by simp only[au.cJ]at h; omega
 |N+1,.mk k o m t n l,dl,l9=>by
  simp only[au.cJ]at dl
  have li:l.length≤1000000000:=by have:=au.iE l; omega
  have Ld:=C2 l
  simp only[nv]
  refine dt bk Tryz.func212 S9 (by simp only[b9,I.flat,au.er,aT7]) rfl ?_
  unfold Je OQ
  simp(disch:=omega)only[go_sem,simprocAttr]
  refine ap ?_
  refine ay.dq (X:=Nat×Nat) (0,0) (fun y=>[(7,.ak 6 (l.map au.row)),(8,.int .i64 ((l.map au.row).length:Int)),(9,.int .i64 (y.1:Int)),(3,.int .i64 (y.2:Int))]) (fun _=>[]) (fun _=>[]) (fun y=>y.1≤l.length∧y.2≤sj l∧max y.2 (sj (l.drop y.1))=sj l) (fun y=>l.length-y.1) ⟨aT8 _,aT8 _,by simp⟩ ⟨rfl,rfl,rfl,rfl,trivial⟩ trivial trivial ?_
  rintro⟨i,a⟩ ⟨ae,aL,aD⟩
  simp only at ae aL aD ⊢
  cases ad:l[i]? with
  |some v=>
   have cL:=(List.getElem?_eq_some_iff.1 ad).1
   rw[fe ad]at aD
   simp only[sj]at aD
   have d1:(i:Int)<((l.map au.row).length:Int):=by rw[aT1]; omega
   have e:=E4 N v (by have:=au.lQ ad; omega) (by omega)
   obtain⟨q,bs⟩: ∃q,q=nv v:=⟨_,rfl⟩
   rw[←bs]at e aD
   rcases v with ⟨iY,jc,ja,jd,jb,iZ⟩
   simp(disch:=omega)only[go_sem,simprocAttr]at e
   (have ax:=d1;refine bI ?_;clear ax)
   refine D.P (e) ?_
   refine ap ?_
   refine ay.lU (i+1,max a q) ⟨by simp only; omega,by simp only; omega,by simp only; omega⟩ ⟨rfl,rfl,by simp only[aT5]; rfl,by rw[show ((max a q:Nat):Int)=max (a:Int) (q:Int) by omega]; rfl,trivial⟩ trivial trivial rfl (by simp only[jp,dE,eP,eQ,jg,I.dC,bB.bP,go_sem]<;>rfl) (by show l.length-(i+1)<l.length-i; omega)
  |none=>
   have ck:=List.getElem?_eq_none_iff.1 ad
   have ch:i=l.length:=by omega
   subst ch
   have d1: ¬(l.length:Int)<((l.map au.row).length:Int):=by rw[aT1]; omega
   rw[aY2]at aD
   simp only[sj]at aD
   (have ax:=d1;refine bI ?_;clear ax)
   refine D.r ?_
   refine⟨_,rfl,.aQ ?_ rfl,trivial,trivial⟩
   simp only[I.aQ,I.int.injEq,true_and]
   omega
theorem YZ:cT aS9 211=true:=by kernel_rfl
theorem ai2 (x:au) (U:x.cJ≤1000000000):Pure aS9 211 [.agg x.row] (.bool (decide (nv x≤10))):=by
 have e:=E4 1000000000 x U (aT4 _)
 obtain⟨q,bs⟩: ∃q,q=nv x:=⟨_,rfl⟩
 rw[←bs]at e ⊢
 rcases x with ⟨iY,jc,ja,jd,jb,iZ⟩
 simp(disch:=omega)only[go_sem,simprocAttr]at e
 refine dt bk Tryz.func211 S8 (by simp only[b9,I.flat,au.er,aT7]) rfl ?_
 unfold Jd OP
 simp(disch:=omega)only[go_sem,simprocAttr]
 refine ap ?_
 refine D.P (e) ?_
 refine ap ?_
 refine D.r ?_
 refine⟨_,rfl,.aQ ?_ rfl,trivial,trivial⟩
 simp only[I.aQ,I.bool.injEq]
 exact decide_eq_decide.2 (by omega)
theorem Wr (n:Nat) (aW:0<n) (bb:n≤100000000000){c:aJ}:aY aS9 303 [.bn,.int .i64 (n:Int)] c (lB (.own c.bf 6 []) (c.fw (.bP 80 6 0))):=by
 obtain⟨i,h1,J,aA,bz⟩:=LS (P:=aS9) (t:=80) (z:=Rm) (n:=6) (b:=88) (by kernel_rfl)
 have:=KP (c:=c) Tryz.KN (i0:=i) (z:=Rm) h1 J (by omega) (by rw[aA]; rfl) (n:=n) aW (by rw[bz]; omega) (by omega)
 rw[aA]at this
 exact this
theorem Wp {c:aJ}:aY aS9 303 [.bn,.int .i64 0] c (lB .bn c):=KM Tryz.KN
theorem Ws (n:Nat) (aW:0<n) (bb:n≤100000000000){c:aJ}:aY aS9 355 [.bn,.int .i64 (n:Int)] c (lB (.own c.bf 11 []) (c.fw (.bP 82 11 0))):=by
 obtain⟨i,h1,J,aA,bz⟩:=LS (P:=aS9) (t:=82) (z:=Rn) (n:=11) (b:=168) (by kernel_rfl)
 have:=KP (c:=c) Tryz.KO (i0:=i) (z:=Rn) h1 J (by omega) (by rw[aA]; rfl) (n:=n) aW (by rw[bz]; omega) (by omega)
 rw[aA]at this
 exact this
theorem Wq {c:aJ}:aY aS9 355 [.bn,.int .i64 0] c (lB .bn c):=KM Tryz.KO
theorem ai3 (a b:List au) (aL:a.length≤1000000000) (hb:b.length≤1000000000):Pure aS9 213 [.ak 1 [[.ak 6 (a.map au.row)],[.ak 6 (b.map au.row)]]] (.ak 6 ((a++b).map au.row)):=by
 have du:((a.map au.row).length:Int)=(a.length:Int):=by rw[aT1]
 have h7:((b.map au.row).length:Int)=(b.length:Int):=by rw[aT1]
 refine dt bk Tryz.func213 Ta (by simp only[b9,I.flat,eD,au.cQ,aT7]) (by simp only[I.flat,au.cQ]) ?_
 unfold Jf OR
 simp(disch:=omega)only[go_sem,simprocAttr]
 refine ap ?_
 refine ay.dq (X:=Nat×Int) (0,0) (fun i=>[(0,.ak 1 [[.ak 6 (a.map au.row)],[.ak 6 (b.map au.row)]]),(2,.bn),(9,.ak 1 [[.ak 6 (a.map au.row)],[.ak 6 (b.map au.row)]]),(10,.int .i64 2),(11,.int .i64 (i.1:Int)),(3,.int .i64 i.2)]) (fun _=>[]) (fun _=>[]) (fun i=>(i.1=0∧i.2=0)∨(i.1=1∧i.2=a.length)∨(i.1=2∧i.2=(a.length:Int)+b.length)) (fun i=>2-i.1) (.inl ⟨rfl,rfl⟩) ⟨rfl,rfl,rfl,rfl,rfl,rfl,trivial⟩ trivial trivial ?_
 rintro⟨i,v⟩ (⟨h1,J⟩|⟨h1,J⟩|⟨h1,J⟩)
 all_goals
  simp only at h1 J
  subst h1 J
 ·have d1: ¬(a.length:Int)<0:=by omega
  have Gn:(0:Int)+(a.length:Int)=(a.length:Int):=by omega
  simp(disch:=omega)only[go_sem,simprocAttr]
  (have ax:=du;have z2:=Gn;have z3:=d1;refine fY ?_;clear ax z2 z3)
  refine ay.fH (1,(a.length:Int)) (.inr (.inl ⟨rfl,rfl⟩)) ⟨rfl,rfl,rfl,rfl,rfl,rfl,trivial⟩ trivial trivial rfl rfl (by show 2-1<2-0; decide)
 ·have d1: ¬(a.length:Int)+(b.length:Int)<0:=by omega
  simp(disch:=omega)only[go_sem,simprocAttr]
  (have ax:=h7;have z2:=d1;refine fX ?_;clear ax z2)
  refine ay.fH (2,(a.length:Int)+(b.length:Int)) (.inr (.inr ⟨rfl,rfl⟩)) ⟨rfl,rfl,rfl,rfl,rfl,rfl,trivial⟩ trivial trivial rfl rfl (by show 2-2<2-1; decide)
 refine ap ?_
 by_cases aW:a.length+b.length=0
 focus
  have e:(a.length:Int)+(b.length:Int)=0:=by omega
  rw[e]
  (apply ai.re rfl (Wp);(·simp(disch:=omega)only[go_sem,simprocAttr]<;>rfl))
  simp only[vz,xa]
  refine dM ?_
  refine ay.uJ 6 6 80 rfl (by decide) ?_
  simp(disch:=omega)only[go_sem,simprocAttr]
 rotate_left
 focus
  rw[show (a.length:Int)+(b.length:Int)=((a.length+b.length:Nat):Int) by omega]
  (apply ai.re rfl (Wr (a.length+b.length) (by omega) (by omega));(·simp(disch:=omega)only[go_sem,simprocAttr]<;>rfl))
  simp only[vz,xa]
  simp(disch:=omega)only[go_sem,simprocAttr]
  (repeat' first|refine D.S ?_|refine ai.nil ?_|refine D.W ?_|refine D.Z ?_|refine D.G ?_ ?_|refine D.X ‹_› ?_|refine D.jU ‹_› ?_|refine D.jV ‹_› ?_|intro h)
 all_goals
  refine ap ?_
  refine ay.dq (X:=Nat×List au) (0,[]) (fun i=>[(25,.ak 1 [[.ak 6 (a.map au.row)],[.ak 6 (b.map au.row)]]),(26,.int .i64 2),(27,.int .i64 (i.1:Int)),(6,.own 0 6 (i.2.map au.row))]) (fun _=>[]) (fun i=>[(0,.bP 80 6 (i.2.map au.row).length)]) (fun i=>(i.1=0∧i.2=[])∨(i.1=1∧i.2=a)∨(i.1=2∧i.2=a++b)) (fun i=>2-i.1) (.inl ⟨rfl,rfl⟩) ⟨rfl,rfl,rfl,rfl,trivial⟩ trivial ⟨rfl,trivial⟩ ?_
  rintro⟨i,v⟩ (⟨h1,J⟩|⟨h1,J⟩|⟨h1,J⟩)
  ·simp only at h1 J
   subst h1 J
   refine ap ?_
   refine D.jz ?_
   refine ap ?_
   refine ay.fH (1,a) (.inr (.inl ⟨rfl,rfl⟩)) ⟨rfl,rfl,rfl,by simp only[aX6,aV1]; rfl,trivial⟩ trivial ⟨by simp only[aX6,aU1,aW6]; rfl,trivial⟩ rfl rfl (by show 2-1<2-0; decide)
  ·simp only at h1 J
   subst h1 J
   refine ap ?_
   refine D.jz ?_
   refine ap ?_
   refine ay.fH (2,v++b) (.inr (.inr ⟨rfl,rfl⟩)) ⟨rfl,rfl,rfl,by simp only[aV4]; rfl,trivial⟩ trivial ⟨by simp only[aV4,aT2]; rfl,trivial⟩ rfl rfl (by show 2-2<2-1; decide)
  ·simp only at h1 J
   subst h1 J
   refine ap ?_
   refine D.r ?_
   exact⟨_,rfl,.aQ rfl (by simp only[I.flat,au.cQ]),trivial,trivial⟩
theorem ai9 (a b:List ao) (aL:a.length≤1000000000) (hb:b.length≤1000000000):Pure aS9 295 [.ak 1 [[.ak 11 (a.map ao.row)],[.ak 11 (b.map ao.row)]]] (.ak 11 ((a++b).map ao.row)):=by
 have du:((a.map ao.row).length:Int)=(a.length:Int):=by rw[aT1]
 have h7:((b.map ao.row).length:Int)=(b.length:Int):=by rw[aT1]
 refine dt bk Tryz.func295 Tw (by simp only[b9,I.flat,eD,ao.cQ,aT7]) (by simp only[I.flat,ao.cQ]) ?_
 unfold JA Pd
 simp(disch:=omega)only[go_sem,simprocAttr]
 refine ap ?_
 refine ay.dq (X:=Nat×Int) (0,0) (fun i=>[(0,.ak 1 [[.ak 11 (a.map ao.row)],[.ak 11 (b.map ao.row)]]),(2,.bn),(9,.ak 1 [[.ak 11 (a.map ao.row)],[.ak 11 (b.map ao.row)]]),(10,.int .i64 2),(11,.int .i64 (i.1:Int)),(3,.int .i64 i.2)]) (fun _=>[]) (fun _=>[]) (fun i=>(i.1=0∧i.2=0)∨(i.1=1∧i.2=a.length)∨(i.1=2∧i.2=(a.length:Int)+b.length)) (fun i=>2-i.1) (.inl ⟨rfl,rfl⟩) ⟨rfl,rfl,rfl,rfl,rfl,rfl,trivial⟩ trivial trivial ?_
 rintro⟨i,v⟩ (⟨h1,J⟩|⟨h1,J⟩|⟨h1,J⟩)
 all_goals
  simp only at h1 J
  subst h1 J
 ·have d1: ¬(a.length:Int)<0:=by omega
  have Gn:(0:Int)+(a.length:Int)=(a.length:Int):=by omega
  simp(disch:=omega)only[go_sem,simprocAttr]
  (have ax:=du;have z2:=Gn;have z3:=d1;refine fY ?_;clear ax z2 z3)
  refine ay.fH (1,(a.length:Int)) (.inr (.inl ⟨rfl,rfl⟩)) ⟨rfl,rfl,rfl,rfl,rfl,rfl,trivial⟩ trivial trivial rfl rfl (by show 2-1<2-0; decide)
 ·have d1: ¬(a.length:Int)+(b.length:Int)<0:=by omega
  simp(disch:=omega)only[go_sem,simprocAttr]
  (have ax:=h7;have z2:=d1;refine fX ?_;clear ax z2)
  refine ay.fH (2,(a.length:Int)+(b.length:Int)) (.inr (.inr ⟨rfl,rfl⟩)) ⟨rfl,rfl,rfl,rfl,rfl,rfl,trivial⟩ trivial trivial rfl rfl (by show 2-2<2-1; decide)
 refine ap ?_
 by_cases aW:a.length+b.length=0
 focus
  have e:(a.length:Int)+(b.length:Int)=0:=by omega
  rw[e]
  (apply ai.re rfl (Wq);(·simp(disch:=omega)only[go_sem,simprocAttr]<;>rfl))
  simp only[vz,xa]
  refine dM ?_
  refine ay.uJ 6 11 82 rfl (by decide) ?_
  simp(disch:=omega)only[go_sem,simprocAttr]
 rotate_left
 focus
  rw[show (a.length:Int)+(b.length:Int)=((a.length+b.length:Nat):Int) by omega]
  (apply ai.re rfl (Ws (a.length+b.length) (by omega) (by omega));(·simp(disch:=omega)only[go_sem,simprocAttr]<;>rfl))
  simp only[vz,xa]
  simp(disch:=omega)only[go_sem,simprocAttr]
  (repeat' first|refine D.S ?_|refine ai.nil ?_|refine D.W ?_|refine D.Z ?_|refine D.G ?_ ?_|refine D.X ‹_› ?_|refine D.jU ‹_› ?_|refine D.jV ‹_› ?_|intro h)
 all_goals
  refine ap ?_
  refine ay.dq (X:=Nat×List ao) (0,[]) (fun i=>[(25,.ak 1 [[.ak 11 (a.map ao.row)],[.ak 11 (b.map ao.row)]]),(26,.int .i64 2),(27,.int .i64 (i.1:Int)),(6,.own 0 11 (i.2.map ao.row))]) (fun _=>[]) (fun i=>[(0,.bP 82 11 (i.2.map ao.row).length)]) (fun i=>(i.1=0∧i.2=[])∨(i.1=1∧i.2=a)∨(i.1=2∧i.2=a++b)) (fun i=>2-i.1) (.inl ⟨rfl,rfl⟩) ⟨rfl,rfl,rfl,rfl,trivial⟩ trivial ⟨rfl,trivial⟩ ?_
  rintro⟨i,v⟩ (⟨h1,J⟩|⟨h1,J⟩|⟨h1,J⟩)
  ·simp only at h1 J
   subst h1 J
   refine ap ?_
   refine D.jz ?_
   refine ap ?_
   refine ay.fH (1,a) (.inr (.inl ⟨rfl,rfl⟩)) ⟨rfl,rfl,rfl,by simp only[aX6,aV1]; rfl,trivial⟩ trivial ⟨by simp only[aX6,aU1,aW6]; rfl,trivial⟩ rfl rfl (by show 2-1<2-0; decide)
  ·simp only at h1 J
   subst h1 J
   refine ap ?_
   refine D.jz ?_
   refine ap ?_
   refine ay.fH (2,v++b) (.inr (.inr ⟨rfl,rfl⟩)) ⟨rfl,rfl,rfl,by simp only[aV4]; rfl,trivial⟩ trivial ⟨by simp only[aV4,aT2]; rfl,trivial⟩ rfl rfl (by show 2-2<2-1; decide)
  ·simp only at h1 J
   subst h1 J
   refine ap ?_
   refine D.r ?_
   exact⟨_,rfl,.aQ rfl (by simp only[I.flat,ao.cQ]),trivial,trivial⟩
end
section
attribute [local go_sem] au.di au.cQ au.er ao.di ao.cQ ao.er ca dB
mutual
def nw:ao→Nat
 | .mk _ _ x _ a b=>1+max (nv x) (max (jZ a) (jZ b))
def jZ:List ao→Nat
 |[]=>0
 |x::l=>max (nw x) (jZ l)
end
theorem Im: ∀a b,jZ (a++b)=max (jZ a) (jZ b)
 |[],b=>by simp [jZ]
 |x::a,b=>by simp only[aU4,jZ,Im a b]; omega
mutual
theorem Vn: ∀x:ao,nw x≤x.cJ
 | .mk _ _ x _ a b=>by
  have:=C1 x
  have:=Ar a
  have:=Ar b
  simp only[nw,ao.cJ]
  omega
theorem Ar: ∀l:List ao,jZ l≤ao.cf l
 |[]=>aT4 _
 |x::l=>by
  have:=Vn x
  have:=Ar l
  simp only[jZ,ao.cf]
  omega
end
theorem ao.xM: ∀a b:List ao,ao.cf (a++b)=ao.cf a+ao.cf b
 |[],b=>by simp [ao.cf]
 |x::a,b=>by simp only[aU4,ao.cf,ao.xM a b]; omega
theorem NU: ∀(N:Nat) (x:ao),x.cJ≤N→N≤1000000000→Pure aS9 204 [.agg x.row] (.int .i64 (nw x:Int))
 |0,.mk k hF x t a b,h,_=>by simp only[ao.cJ]at h; omega
 |N+1,.mk k hF x t jO k0,dl,l9=>by
  simp only[ao.cJ]at dl
  have A1:=ao.iE jO
  have A2:=ao.iE k0
  have li:=ao.iE (jO++k0)
  have DU:=ao.xM jO k0
  have Ld:=Ar (jO++k0)
  have Lh:=C1 x
  have ex:=E4 N x (by omega) (by omega)
  have kM:=ai9 jO k0 (by omega) (by omega)
  simp only[nw]
  rw[←Im]
  obtain⟨l,aE⟩: ∃l,l=jO++k0:=⟨_,rfl⟩
  rw[←aE]at kM Ld DU li ⊢
  obtain⟨jN,XY⟩: ∃q,q=nv x:=⟨_,rfl⟩
  rw[←XY]at ex Lh ⊢
  clear aE
  rcases x with ⟨iY,jc,ja,jd,jb,iZ⟩
  simp(disch:=omega)only[go_sem,simprocAttr]at ex
  refine dt bk Tryz.func204 S0 (by simp only[b9,I.flat,ao.er,aT7]) rfl ?_
  unfold I6 OH
  simp(disch:=omega)only[go_sem,simprocAttr]
  refine ap ?_
  refine D.P (ex) ?_
  refine ap ?_
  refine D.P (kM) ?_
  refine ap ?_
  refine ay.dq (X:=Nat×Nat) (0,jN) (fun y=>[(14,.ak 11 (l.map ao.row)),(15,.int .i64 ((l.map ao.row).length:Int)),(16,.int .i64 (y.1:Int)),(3,.int .i64 (y.2:Int))]) (fun _=>[]) (fun _=>[]) (fun y=>y.1≤l.length∧y.2≤max jN (jZ l)∧max y.2 (jZ (l.drop y.1))=max jN (jZ l)) (fun y=>l.length-y.1) ⟨aT8 _,by simp only; omega,by simp⟩ ⟨rfl,rfl,rfl,rfl,trivial⟩ trivial trivial ?_
  rintro⟨i,a⟩ ⟨ae,aL,aD⟩
  simp only at ae aL aD ⊢
  cases ad:l[i]? with
  |some v=>
   have cL:=(List.getElem?_eq_some_iff.1 ad).1
   rw[fe ad]at aD
   simp only[jZ]at aD
   have d1:(i:Int)<((l.map ao.row).length:Int):=by rw[aT1]; omega
   have e:=NU N v (by have:=ao.lQ ad; omega) (by omega)
   obtain⟨q,bs⟩: ∃q,q=nw v:=⟨_,rfl⟩
   rw[←bs]at e aD
   rcases v with ⟨eX,ab0,⟨aJ0,aJ4,aJ2,aJ5,aJ3,aJ1⟩,ay0,ar8,ar9⟩
   simp(disch:=omega)only[go_sem,simprocAttr]at e
   (have ax:=d1;refine bI ?_;clear ax)
   refine D.P (e) ?_
   refine ap ?_
   refine ay.lU (i+1,max a q) ⟨by simp only; omega,by simp only; omega,by simp only; omega⟩ ⟨rfl,rfl,by simp only[aT5]; rfl,by rw[show ((max a q:Nat):Int)=max (a:Int) (q:Int) by omega]; rfl,trivial⟩ trivial trivial rfl (by simp only[jp,dE,eP,eQ,jg,I.dC,bB.bP,go_sem]<;>rfl) (by show l.length-(i+1)<l.length-i; omega)
  |none=>
   have ck:=List.getElem?_eq_none_iff.1 ad
   have ch:i=l.length:=by omega
   subst ch
   have d1: ¬(l.length:Int)<((l.map ao.row).length:Int):=by rw[aT1]; omega
   rw[aY2]at aD
   simp only[jZ]at aD
   (have ax:=d1;refine bI ?_;clear ax)
   refine D.r ?_
   refine⟨_,rfl,.aQ ?_ rfl,trivial,trivial⟩
   simp only[I.aQ,I.int.injEq,true_and]
   omega
theorem YX:cT aS9 203=true:=by kernel_rfl
theorem ah8 (x:ao) (U:x.cJ≤1000000000):Pure aS9 203 [.agg x.row] (.bool (decide (nw x≤10))):=by
 have e:=NU 1000000000 x U (aT4 _)
 obtain⟨q,bs⟩: ∃q,q=nw x:=⟨_,rfl⟩
 rw[←bs]at e ⊢
 rcases x with ⟨k,hF,⟨iY,jc,ja,jd,jb,iZ⟩,t,a,b⟩
 simp(disch:=omega)only[go_sem,simprocAttr]at e
 refine dt bk Tryz.func203 SZ (by simp only[b9,I.flat,ao.er,aT7]) rfl ?_
 unfold I5 OG
 simp(disch:=omega)only[go_sem,simprocAttr]
 refine ap ?_
 refine D.P (e) ?_
 refine ap ?_
 refine D.r ?_
 refine⟨_,rfl,.aQ ?_ rfl,trivial,trivial⟩
 simp only[I.aQ,I.bool.injEq]
 exact decide_eq_decide.2 (by omega)
end
section
attribute [local go_sem] au.di au.cQ au.er ao.di ao.cQ ao.er ca dB bQ.row dZ
def fk (k:Int) (m:bT) (t:Int) (kW bN:Nat):Bool:=
  if k=1 then gC m&&(decide (t=0)&&(decide (kW=0)&&decide (bN=0)))
  else if k=2 then decide (m=[])&&decide (t=0)
  else if k=3 then decide (m=[])&&(decide (1≤t)&&(decide (t≤50)&&decide (bN=0)))
  else false
mutual
def ku:ao→Bool
  | .mk k m x t a b=>fk k m t a.length b.length&&(iC x&&(lg a&&lg b))
def lg:List ao→Bool
  |[]=>true
  |x::l=>ku x&&lg l
end
theorem yf: ∀l,lg l=l.all ku
  |[]=>rfl
  |x::l=>by simp only[lg,aV0,yf l]
theorem Et:cT aS9 208=true:=by kernel_rfl
theorem E3: ∀(N:Nat) (x:ao),x.cJ≤N→N≤1000000000→Pure aS9 208 [.agg x.row] (.bool (ku x))
  |0,.mk k hF x t a b,h,_=>by simp only[ao.cJ]at h; omega
  |N+1,.mk k hF x t jO k0,dl,l9=>by
   simp only[ao.cJ]at dl
   have A1:=ao.iE jO
   have A2:=ao.iE k0
   have ex:=E6 N x (by omega) (by omega)
   have pq:=By Et ku jO (by omega) fun v ad=>by
     obtain⟨i,ae⟩:=aW5 ad
     exact E3 N v (by have:=ao.lQ ae; omega) (by omega)
   have iN:=By Et ku k0 (by omega) fun v ad=>by
     obtain⟨i,ae⟩:=aW5 ad
     exact E3 N v (by have:=ao.lQ ae; omega) (by omega)
   have du:((jO.map ao.row).length:Int)=(jO.length:Int):=by rw[aT1]
   have h7:((k0.map ao.row).length:Int)=(k0.length:Int):=by rw[aT1]
   simp only[ku,yf]
   generalize jO.all ku=ru at pq
   generalize k0.all ku=DC at iN
   generalize iC x=DH at ex
   clear A1 A2 dl
   generalize jO.length=kW at du ⊢
   generalize k0.length=bN at h7 ⊢
   rcases x with ⟨iY,jc,ja,jd,jb,iZ⟩
   simp(disch:=omega)only[go_sem,simprocAttr]at ex
   refine dt bk Tryz.func208 S4 (by simp only[b9,I.flat,ao.er,aT7]) rfl ?_
   unfold Ja OL
   simp(disch:=omega)only[go_sem,simprocAttr]
   by_cases h1:k=1
   ·subst h1
    (have ax:=du;have z2:=h7;refine fX ?_;clear ax z2)
    refine D.P (oT hF) ?_
    cases aF:gC hF
    ·refine ap ?_
     refine D.r ?_
     refine⟨_,rfl,.aQ ?_ rfl,trivial,trivial⟩
     simp_all [fk,I.aQ]
    (repeat' first|(apply ai.s rfl;(·simp(disch:=omega)only[go_sem,simprocAttr,du,h7]<;>with_reducible rfl))|(apply ay.s true true;(·simp(disch:=omega)only[go_sem,simprocAttr,du,h7]<;>with_reducible rfl))|apply ai.nil|(refine ay.dr ?_)|(apply ai.fi;(·simp(disch:=omega)only[go_sem,simprocAttr,du,h7]<;>with_reducible rfl))|(apply ai.fj;(·rfl);(·simp(disch:=omega)only[go_sem,simprocAttr,du,h7]<;>with_reducible rfl))|(apply ai.gs;(·simp(disch:=omega)only[go_sem,simprocAttr,du,h7]<;>with_reducible rfl))|((first|apply ai.fl|apply ai.fm|apply ai.fo);(·simp(disch:=omega)only[go_sem,simprocAttr,du,h7]<;>with_reducible rfl);(·simp(disch:=omega)only[go_sem,simprocAttr,du,h7]<;>with_reducible rfl);(·assumption);(·omega))|intro h|(apply ay.cond;(·simp(disch:=omega)only[go_sem,simprocAttr,du,h7]<;>with_reducible rfl)))
    all_goals first
      |(refine D.R ?_
        refine⟨_,rfl,.aQ ?_ rfl,trivial,trivial⟩
        first
        |(simp_all [fk,I.aQ]; done)
        |(simp_all [fk,I.aQ]; intros; omega)
        |(simp_all [fk,I.aQ]; omega))
      |skip
    refine D.P (ex) ?_
    cases DH
    ·refine ap ?_
     refine D.r ?_
     refine⟨_,rfl,.aQ ?_ rfl,trivial,trivial⟩
     first
     |(simp_all [fk,I.aQ]; done)
     |(simp_all [fk,I.aQ]; intros; omega)
     |(simp_all [fk,I.aQ]; omega)
    refine ap ?_
    refine D.P (pq) ?_
    cases ru
    ·refine ap ?_
     refine D.r ?_
     refine⟨_,rfl,.aQ ?_ rfl,trivial,trivial⟩
     first
     |(simp_all [fk,I.aQ]; done)
     |(simp_all [fk,I.aQ]; intros; omega)
     |(simp_all [fk,I.aQ]; omega)
    refine ap ?_
    refine D.P (iN) ?_
    refine ap ?_
    refine D.r ?_
    refine⟨_,rfl,.aQ ?_ rfl,trivial,trivial⟩
    first
    |(simp_all [fk,I.aQ]; done)
    |(simp_all [fk,I.aQ]; intros; omega)
    |(simp_all [fk,I.aQ]; omega)
   by_cases J:k=2
   ·subst J
    (repeat' first|(apply ai.s rfl;(·simp(disch:=omega)only[go_sem,simprocAttr,du,h7]<;>with_reducible rfl))|(apply ay.s true true;(·simp(disch:=omega)only[go_sem,simprocAttr,du,h7]<;>with_reducible rfl))|apply ai.nil|(refine ay.dr ?_)|(apply ai.fi;(·simp(disch:=omega)only[go_sem,simprocAttr,du,h7]<;>with_reducible rfl))|(apply ai.fj;(·rfl);(·simp(disch:=omega)only[go_sem,simprocAttr,du,h7]<;>with_reducible rfl))|(apply ai.gs;(·simp(disch:=omega)only[go_sem,simprocAttr,du,h7]<;>with_reducible rfl))|((first|apply ai.fl|apply ai.fm|apply ai.fo);(·simp(disch:=omega)only[go_sem,simprocAttr,du,h7]<;>with_reducible rfl);(·simp(disch:=omega)only[go_sem,simprocAttr,du,h7]<;>with_reducible rfl);(·assumption);(·omega))|intro h|(apply ay.cond;(·simp(disch:=omega)only[go_sem,simprocAttr,du,h7]<;>with_reducible rfl)))
    all_goals first
      |(refine D.R ?_
        refine⟨_,rfl,.aQ ?_ rfl,trivial,trivial⟩
        first
        |(simp_all [fk,I.aQ]; done)
        |(simp_all [fk,I.aQ]; intros; omega)
        |(simp_all [fk,I.aQ]; omega))
      |skip
    refine D.P (ex) ?_
    cases DH
    ·refine ap ?_
     refine D.r ?_
     refine⟨_,rfl,.aQ ?_ rfl,trivial,trivial⟩
     first
     |(simp_all [fk,I.aQ]; done)
     |(simp_all [fk,I.aQ]; intros; omega)
     |(simp_all [fk,I.aQ]; omega)
    refine ap ?_
    refine D.P (pq) ?_
    cases ru
    ·refine ap ?_
     refine D.r ?_
     refine⟨_,rfl,.aQ ?_ rfl,trivial,trivial⟩
     first
     |(simp_all [fk,I.aQ]; done)
     |(simp_all [fk,I.aQ]; intros; omega)
     |(simp_all [fk,I.aQ]; omega)
    refine ap ?_
    refine D.P (iN) ?_
    refine ap ?_
    refine D.r ?_
    refine⟨_,rfl,.aQ ?_ rfl,trivial,trivial⟩
    first
    |(simp_all [fk,I.aQ]; done)
    |(simp_all [fk,I.aQ]; intros; omega)
    |(simp_all [fk,I.aQ]; omega)
   by_cases aA:k=3
   ·subst aA
    (repeat' first|(apply ai.s rfl;(·simp(disch:=omega)only[go_sem,simprocAttr,du,h7]<;>with_reducible rfl))|(apply ay.s true true;(·simp(disch:=omega)only[go_sem,simprocAttr,du,h7]<;>with_reducible rfl))|apply ai.nil|(refine ay.dr ?_)|(apply ai.fi;(·simp(disch:=omega)only[go_sem,simprocAttr,du,h7]<;>with_reducible rfl))|(apply ai.fj;(·rfl);(·simp(disch:=omega)only[go_sem,simprocAttr,du,h7]<;>with_reducible rfl))|(apply ai.gs;(·simp(disch:=omega)only[go_sem,simprocAttr,du,h7]<;>with_reducible rfl))|((first|apply ai.fl|apply ai.fm|apply ai.fo);(·simp(disch:=omega)only[go_sem,simprocAttr,du,h7]<;>with_reducible rfl);(·simp(disch:=omega)only[go_sem,simprocAttr,du,h7]<;>with_reducible rfl);(·assumption);(·omega))|intro h|(apply ay.cond;(·simp(disch:=omega)only[go_sem,simprocAttr,du,h7]<;>with_reducible rfl)))
    all_goals first
      |(refine D.R ?_
        refine⟨_,rfl,.aQ ?_ rfl,trivial,trivial⟩
        first
        |(simp_all [fk,I.aQ]; done)
        |(simp_all [fk,I.aQ]; intros; omega)
        |(simp_all [fk,I.aQ]; omega))
      |skip
    refine D.P (ex) ?_
    cases DH
    ·refine ap ?_
     refine D.r ?_
     refine⟨_,rfl,.aQ ?_ rfl,trivial,trivial⟩
     first
     |(simp_all [fk,I.aQ]; done)
     |(simp_all [fk,I.aQ]; intros; omega)
     |(simp_all [fk,I.aQ]; omega)
    refine ap ?_
    refine D.P (pq) ?_
    cases ru
    ·refine ap ?_
     refine D.r ?_
     refine⟨_,rfl,.aQ ?_ rfl,trivial,trivial⟩
     first
     |(simp_all [fk,I.aQ]; done)
     |(simp_all [fk,I.aQ]; intros; omega)
     |(simp_all [fk,I.aQ]; omega)
    refine ap ?_
    refine D.P (iN) ?_
    refine ap ?_
    refine D.r ?_
    refine⟨_,rfl,.aQ ?_ rfl,trivial,trivial⟩
    first
    |(simp_all [fk,I.aQ]; done)
    |(simp_all [fk,I.aQ]; intros; omega)
    |(simp_all [fk,I.aQ]; omega)
   (have ax:=h1;have z2:=J;have z3:=aA;refine fY ?_;clear ax z2 z3)
   refine D.r ?_
   refine⟨_,rfl,.aQ ?_ rfl,trivial,trivial⟩
   simp [fk,h1,J,aA,I.aQ]
def qn (v:bQ):Bool:=gC v.name&&(sh v.cm&&(sh v.ae&&((decide (v.gj=1)||(decide (v.gj=2)&&(decide (0≤v.cm)&&decide (0≤v.ae))))&&
  (if v.ei=1 then sh v.n&&decide (v.s=[]) else if v.ei=2 then decide (v.n=0)&&sR v.s else false))))
theorem Zd:cT aS9 111=true:=by kernel_rfl
theorem ak6 (v:bQ):Pure aS9 111 [.agg v.row] (.bool (qn v)):=by
  obtain⟨hF,gj,cm,ae,ei,n,s⟩:=v
  have VJ:=oT hF
  have VG:=E1 cm
  have VF:=E1 ae
  have AC:=E1 n
  have Kd:=NT s
  simp only[qn]
  generalize gC hF=R3 at*
  generalize sh cm=RZ at*
  generalize sh ae=Cs at*
  generalize sh n=Ac at*
  generalize sR s=G3 at*
  refine dt bk Tryz.func111 Ss rfl rfl ?_
  unfold Iz N7
  simp(disch:=omega)only[go_sem,simprocAttr]
  refine ap ?_
  refine D.P (VJ) ?_
  cases R3
  ·refine ap ?_
   exact D.rx
  refine ap ?_
  refine D.P (VG) ?_
  cases RZ
  ·refine ap ?_
   exact D.rx
  refine ap ?_
  refine D.P (VF) ?_
  cases Cs
  ·refine ap ?_
   exact D.rx
  by_cases br:gj=1
  focus
    subst br
    (repeat' first|refine D.S ?_|refine D.iv true true ?_|refine ai.nil ?_|refine ay.dr ?_|refine D.W ?_|refine D.Z ?_|refine D.G ?_ ?_|refine D.X ‹_› ?_|refine D.jU ‹_› ?_|refine D.jV ‹_› ?_|intro h)
  rotate_left
  focus
    by_cases bA:gj=2
    ·subst bA
     by_cases vk:cm<0
     ·(have ax:=vk;refine bI ?_;clear ax)
      refine D.r ?_
      refine⟨_,rfl,.aQ ?_ rfl,trivial,trivial⟩
      simp [I.aQ,show ¬ 0≤cm by omega]
     by_cases aR:ae<0
     ·(have ax:=vk;have z2:=aR;refine fX ?_;clear ax z2)
      refine D.r ?_
      refine⟨_,rfl,.aQ ?_ rfl,trivial,trivial⟩
      simp [I.aQ,show ¬ 0≤ae by omega]
     (have ax:=vk;have z2:=aR;refine fX ?_;clear ax z2)
     have fp:0≤cm:=by omega
     have pD:0≤ae:=by omega
     rw[show (decide ((2:Int)=1)||(decide ((2:Int)=2)&&(decide (0≤cm)&&decide (0≤ae))))=true by simp [fp,pD]]
     clear vk aR fp pD
     by_cases vf:ei=1
     ·subst vf
      refine ap ?_
      refine D.P (AC) ?_
      cases Ac
      ·refine ap ?_
       exact D.rx
      refine ap ?_
      exact D.rx
     by_cases vg:ei=2
     ·subst vg
      by_cases cF:n=0
      ·(have ax:=cF;refine bI ?_;clear ax)
       refine D.P (Kd) ?_
       refine ap ?_
       refine D.r ?_
       refine⟨_,rfl,.aQ ?_ rfl,trivial,trivial⟩
       simp [I.aQ,cF]
      ·(have ax:=cF;refine bI ?_;clear ax)
       refine D.r ?_
       refine⟨_,rfl,.aQ ?_ rfl,trivial,trivial⟩
       simp [I.aQ,cF]
     (have ax:=vf;have z2:=vg;refine fX ?_;clear ax z2)
     refine D.r ?_
     refine⟨_,rfl,.aQ ?_ rfl,trivial,trivial⟩
     simp [I.aQ,vf,vg]
    ·(have ax:=br;have z2:=bA;refine fX ?_;clear ax z2)
     refine D.r ?_
     refine⟨_,rfl,.aQ ?_ rfl,trivial,trivial⟩
     simp [I.aQ,br,bA]
  rw[show (decide ((1:Int)=1)||(decide ((1:Int)=2)&&(decide (0≤cm)&&decide (0≤ae))))=true by simp]
  by_cases vf:ei=1
  ·subst vf
   refine ap ?_
   refine D.P (AC) ?_
   cases Ac
   ·refine ap ?_
    exact D.rx
   refine ap ?_
   exact D.rx
  by_cases vg:ei=2
  ·subst vg
   by_cases cF:n=0
   ·(have ax:=cF;refine bI ?_;clear ax)
    refine D.P (Kd) ?_
    refine ap ?_
    refine D.r ?_
    refine⟨_,rfl,.aQ ?_ rfl,trivial,trivial⟩
    simp [I.aQ,cF]
   ·(have ax:=cF;refine bI ?_;clear ax)
    refine D.r ?_
    refine⟨_,rfl,.aQ ?_ rfl,trivial,trivial⟩
    simp [I.aQ,cF]
  (have ax:=vf;have z2:=vg;refine fX ?_;clear ax z2)
  refine D.r ?_
  refine⟨_,rfl,.aQ ?_ rfl,trivial,trivial⟩
  simp [I.aQ,vf,vg]
end
section
attribute [local go_sem] au.di au.cQ au.er ao.di ao.cQ ao.er ca dB gz ht eb of_flat
theorem au6 (s:bT):(tX s).length≤s.length+1:=by
 have hlen:=Lib.splitB_all ti (aT4 _) 0 _ ⟨⟨s⟩⟩ rfl
 have hle:=Lib.countB_le ti (aT4 _) s.length ⟨⟨s⟩⟩ (aT4 _)
 rw[tX,aT1,hlen]
 exact Nat.succ_le_succ hle
theorem Y2:cT aS9 298=true:=by kernel_rfl
theorem aj2 (s:bT):Pure aS9 298 [.str s] (.bool (!(gC s))):=by
 refine dt bk Tryz.func298 Tx rfl rfl ?_
 unfold JB Pe
 simp(disch:=omega)only[go_sem,simprocAttr]
 refine ap ?_
 refine D.P (oT s) ?_
 refine ap ?_
 exact D.rx
theorem ak2 {f:FuncId}(aO:cT aS9 f=true) (g:bT→Bool) (l:List bT) (aE:l.length≤1000000000000) (h: ∀v∈l,Pure aS9 f [.str v] (.bool (!(g v)))):Pure aS9 356 [.ak 1 (l.map ca),.fn f []] (.int .i64 (cW g l 0)):=by
 refine dt bk Tryz.func356 Hv (by simp only[b9,I.flat,dB,aT7]) rfl ?_
 unfold Dl Fm
 simp(disch:=omega)only[go_sem,simprocAttr]
 refine ap ?_
 refine ay.dq (X:=Nat) 0 (fun i=>[(0,.ak 1 (l.map ca)),(1,.fn f []),(7,.int .i64 ((l.map ca).length:Int)),(8,.int .i64 (i:Int))]) (fun _=>[]) (fun _=>[]) (fun i=>i≤l.length∧cW g (l.drop i) i=cW g l 0) (fun i=>l.length-i) ⟨aT8 _,rfl⟩ ⟨rfl,rfl,rfl,rfl,trivial⟩ trivial trivial ?_
 rintro i ⟨ae,aD⟩
 try simp only at ae aD ⊢
 cases ad:l[i]? with
 |some v=>
  have cL:=(List.getElem?_eq_some_iff.1 ad).1
  rw[fe ad]at aD
  simp only[cW]at aD
  have d1:(i:Int)<((l.map ca).length:Int):=by rw[aT1]; omega
  have e:=h v (aT6 ad)
  generalize g v=b at e aD
  clear h
  (have ax:=d1;refine bI ?_;clear ax)
  refine D.V (aO) (e) ?_
  cases b
  ·refine ap ?_
   refine D.r ?_
   exact⟨_,rfl,.aQ (by rw[←aD]; rfl) rfl,trivial,trivial⟩
  ·refine ap ?_
   refine ay.fH (i+1) ⟨by omega,aD⟩ ⟨rfl,rfl,rfl,by simp only[aT5]; rfl,trivial⟩ trivial trivial rfl rfl (by show l.length-(i+1)<l.length-i; omega)
 |none=>
  have ck:=List.getElem?_eq_none_iff.1 ad
  have ch:i=l.length:=by omega
  subst ch
  have d1: ¬(l.length:Int)<((l.map ca).length:Int):=by rw[aT1]; omega
  rw[aY2]at aD
  (have ax:=d1;refine bI ?_;clear ax)
  refine D.r ?_
  exact⟨_,rfl,.aQ (by rw[←aD]; rfl) rfl,trivial,trivial⟩
theorem aj1 {f:FuncId}(aO:cT aS9 f=true) (g:bT→Bool) (l:List bT) (aE:l.length≤1000000000000) (h: ∀v∈l,Pure aS9 f [.str v] (.bool (!(g v)))):Pure aS9 296 [.ak 1 (l.map ca),.fn f []] (.bool (!(l.all g))):=by
 have e:=ak2 aO g l aE h
 refine dt bk Tryz.func296 Ht (by simp only[b9,I.flat,dB,aT7]) rfl ?_
 unfold Dj Fk
 simp(disch:=omega)only[go_sem,simprocAttr]
 refine ap ?_
 refine D.P (e) ?_
 refine ap ?_
 refine D.r ?_
 exact⟨_,rfl,.aQ (by rw[←tT g l 0]; rfl) rfl,trivial,trivial⟩
def qC (s:bT):Bool:=decide (s.length≤50)&&(tX s).all gC
theorem E2 (s:bT):Pure aS9 205 [.str s] (.bool (qC s)):=by
 unfold qC
 refine dt bk Tryz.func205 S1 rfl rfl ?_
 unfold I7 OI
 simp(disch:=omega)only[go_sem,simprocAttr]
 by_cases h:s.length≤50
 ·have d:(s.length:Int)≤50:=by omega
  have aE:=au6 s
  have e:=aj1 Y2 gC (tX s) (by omega) fun v _=>aj2 v
  (have ax:=d;refine bI ?_;clear ax)
  refine D.P (ad7 s (by omega)) ?_
  refine ap ?_
  refine D.P (e) ?_
  refine ap ?_
  refine D.r ?_
  refine⟨_,rfl,.aQ ?_ rfl,trivial,trivial⟩
  simp [I.aQ,h]
 ·have d: ¬(s.length:Int)≤50:=by omega
  (have ax:=d;refine bI ?_;clear ax)
  refine D.r ?_
  refine⟨_,rfl,.aQ ?_ rfl,trivial,trivial⟩
  simp [I.aQ,h]
theorem Zc:cT aS9 109=true:=by kernel_rfl
theorem Ze:cT aS9 113=true:=by kernel_rfl
theorem Zf:cT aS9 115=true:=by kernel_rfl
def pv (h:bK):Bool:=qC h.dw&&(gC h.peer&&(decide (h.ps.length≤4)&&(h.ps.all gC&&(h.body.all ku&&h.body.all (fun x=>decide (nw x≤10))))))
def pw (o:cC):Bool:=qC o.dw&&(gC o.peer&&(decide (o.args.length≤4)&&(decide (o.eF.length≤1)&&((o.args++o.eF).all iC&&(o.args++o.eF).all (fun x=>decide (nv x≤10))))))
theorem ao.tN {l:List ao}{v:ao}(h:v∈l):v.cJ≤ao.cf l:=by
 obtain⟨i,ae⟩:=aW5 h
 exact ao.lQ ae
theorem au.tN {l:List au}{v:au}(h:v∈l):v.cJ≤au.cf l:=by
 obtain⟨i,ae⟩:=aW5 h
 exact au.lQ ae
theorem ak8 (h:bK) (hb:ao.cf h.body≤1000000000) (hp:h.ps.length≤1000000000):Pure aS9 113 [.agg h.row] (.bool (pv h)):=by
 obtain⟨dw,peer,ps,body⟩:=h
 simp only at hb hp
 have aM2:=ao.iE body
 have aj:=E2 dw
 have aq:=oT peer
 have bD:=ah9 Zc gC ps (by omega) fun v _=>oT v
 have da:=By Et ku body (by omega) fun v ad=>E3 1000000000 v (by have:=ao.tN ad; omega) (aT4 _)
 have fh:=By YX (fun x=>decide (nw x≤10)) body (by omega) fun v ad=>ah8 v (by have:=ao.tN ad; omega)
 have r0:((ps.map ca).length:Int)=(ps.length:Int):=by rw[aT1]
 simp only[pv]
 generalize qC dw=ff at*
 generalize gC peer=jf at*
 generalize ps.all gC=lE at*
 generalize body.all ku=pj at*
 generalize (body.all fun x=>decide (nw x≤10))=xP at*
 refine dt bk Tryz.func113 Su (by simp only[b9,I.flat,gz,dB,ao.cQ,aT7]) rfl ?_
 unfold IB N9
 simp(disch:=omega)only[go_sem,simprocAttr]
 refine ap ?_
 refine D.P (aj) ?_
 cases ff
 ·refine ap ?_
  exact D.rx
 refine ap ?_
 refine D.P (aq) ?_
 cases jf
 ·refine ap ?_
  exact D.rx
 by_cases bz:ps.length≤4
 rotate_left
 ·have d: ¬(ps.length:Int)≤4:=by omega
  (have ax:=r0;have z2:=d;refine fX ?_;clear ax z2)
  refine D.r ?_
  refine⟨_,rfl,.aQ ?_ rfl,trivial,trivial⟩
  simp [I.aQ,bz]
 have d:(ps.length:Int)≤4:=by omega
 simp only[decide_eq_true bz,aU7]
 (have ax:=r0;have z2:=d;refine fX ?_;clear ax z2)
 refine D.P (bD) ?_
 cases lE
 ·refine ap ?_
  exact D.rx
 refine ap ?_
 refine D.P (da) ?_
 cases pj
 ·refine ap ?_
  exact D.rx
 refine ap ?_
 refine D.P (fh) ?_
 refine ap ?_
 exact D.rx
end
section
attribute [local go_sem] au.di au.cQ au.er ao.di ao.cQ ao.er ca dB gz ht eb of_flat
theorem au.xM: ∀a b:List au,au.cf (a++b)=au.cf a+au.cf b
 |[],b=>by simp [au.cf]
 |x::a,b=>by simp only[aU4,au.cf,au.xM a b]; omega
theorem al0 (o:cC) (hb:au.cf o.args+au.cf o.eF≤1000000000):Pure aS9 115 [.agg o.row] (.bool (pw o)):=by
 obtain⟨dw,peer,nR,wn⟩:=o
 simp only at hb
 have A1:=au.iE nR
 have u0:=au.iE wn
 have DU:=au.xM nR wn
 have kv:=au.iE (nR++wn)
 have aj:=E2 dw
 have aq:=oT peer
 have ch:=ai3 nR wn (by omega) (by omega)
 have da:=E5 LY iC (nR++wn) (by omega) fun v ad=>E6 1000000000 v (by have:=au.tN ad; omega) (aT4 _)
 have fh:=E5 YZ (fun x=>decide (nv x≤10)) (nR++wn) (by omega) fun v ad=>ai2 v (by have:=au.tN ad; omega)
 have r0:((nR.map au.row).length:Int)=(nR.length:Int):=by rw[aT1]
 have Rq:((wn.map au.row).length:Int)=(wn.length:Int):=by rw[aT1]
 simp only[pw]
 generalize qC dw=ff at*
 generalize gC peer=jf at*
 generalize (nR++wn).all iC=pj at*
 generalize ((nR++wn).all fun x=>decide (nv x≤10))=xP at*
 generalize nR++wn=aL2 at*
 clear DU kv hb A1 u0
 refine dt bk Tryz.func115 Sw (by simp only[b9,I.flat,ht,au.cQ,aT7]) rfl ?_
 unfold ID Ob
 simp(disch:=omega)only[go_sem,simprocAttr]
 refine ap ?_
 refine D.P (ch) ?_
 refine ap ?_
 refine D.P (aj) ?_
 cases ff
 ·refine ap ?_
  exact D.rx
 refine ap ?_
 refine D.P (aq) ?_
 cases jf
 ·refine ap ?_
  exact D.rx
 by_cases bz:nR.length≤4
 rotate_left
 ·have d: ¬(nR.length:Int)≤4:=by omega
  (have ax:=r0;have z2:=d;refine fX ?_;clear ax z2)
  refine D.r ?_
  refine⟨_,rfl,.aQ ?_ rfl,trivial,trivial⟩
  simp [I.aQ,bz]
 have d:(nR.length:Int)≤4:=by omega
 simp only[decide_eq_true bz,aU7]
 by_cases h1:wn.length≤1
 rotate_left
 ·have d1: ¬(wn.length:Int)≤1:=by omega
  (have ax:=r0;have z2:=d;have z3:=And.intro Rq d1;refine fY ?_;clear ax z2 z3)
  refine D.r ?_
  refine⟨_,rfl,.aQ ?_ rfl,trivial,trivial⟩
  simp [I.aQ,h1]
 have d1:(wn.length:Int)≤1:=by omega
 simp only[decide_eq_true h1,aU7]
 (have ax:=r0;have z2:=d;have z3:=And.intro Rq d1;refine fY ?_;clear ax z2 z3)
 refine D.P (da) ?_
 cases pj
 ·refine ap ?_
  exact D.rx
 refine ap ?_
 refine D.P (fh) ?_
 refine ap ?_
 exact D.rx
theorem Li {k:Int}{o m t:bT}{n:Int}{kW:Nat}(h:gA k o m t n kW=true):(k=1∧0≤n∧n≤1000∧kW=0)∨(k=2∧t.length≤40∧kW=0)∨(k=3∧kW=0)∨(k=4∧kW=1)∨(k=5∧kW=1)∨(k=6∧kW=2):=by
 unfold gA at h
 by_cases h1:k=1
 ·simp [h1]at h; simp [h1,h.1,h.2.1,h.2.2.1]
 by_cases J:k=2
 ·simp [J,sR]at h; simp [J,h.1.1,h.2.1]
 by_cases aA:k=3
 ·simp [aA]at h; simp [aA,h.2.1]
 by_cases bz:k=4
 ·simp [bz]at h; simp [bz,h.1]
 by_cases bZ:k=5
 ·simp [bZ]at h; simp [bZ,h.2.1]
 by_cases ef:k=6
 ·simp [ef]at h; simp [ef,h.2.1]
 simp [h1,J,aA,bz,bZ,ef]at h
theorem sM: ∀(N:Nat),(∀x:au,x.cJ≤N→iC x=true→(dx x).length≤1000000000→Pure aS9 221 [.agg x.row] (.str (dx x)))∧(∀(x:au) (k:Int),x.cJ≤N→iC x=true→(lq x (dx x) k).length≤1000000000→Pure aS9 314 [.agg x.row,.int .i64 k] (.str (lq x (dx x) k)))
 |0=>⟨fun x h=>by cases x; simp only[au.cJ]at h; omega,fun x k h=>by cases x; simp only[au.cJ]at h; omega⟩
 |N+1=>by
  have key: ∀x:au,x.cJ≤N+1→iC x=true→(dx x).length≤1000000000→Pure aS9 221 [.agg x.row] (.str (dx x)):=by
   rintro⟨k,o,m,t,n,l⟩ dl bm an
   simp only[au.cJ]at dl
   simp only[iC,aT0]at bm
   obtain⟨a8,hD⟩:=bm
   simp only[dx,FK]at an ⊢
   have yA:=an
   unfold Dz at an ⊢
   refine dt bk Tryz.func221 Tg (by simp only[b9,I.flat,au.er,aT7]) rfl ?_
   unfold Dg OX
   simp(disch:=omega)only[go_sem,simprocAttr]
   rcases Li a8 with ⟨rfl,aW,h1,J⟩|⟨rfl,aW,h1⟩|⟨rfl,aW⟩|⟨rfl,aW⟩|⟨rfl,aW⟩|⟨rfl,aW⟩
   ·refine ap ?_
    refine D.P (zb n (by omega) (by omega)) ?_
    refine ap ?_
    exact D.rx
   ·refine ap ?_
    refine D.P (NX t (by omega)) ?_
    refine ap ?_
    exact D.rx
   ·refine ap ?_
    exact D.rx
   ·match l,aW with
    |[x],_=>
    simp only[nC,aW0]at hD
    simp only[au.cf]at dl
    have jH:([108,101,110,40]++dx x++[41]).length≤1000000000:=an
    simp only[aT2,aT3,aU1]at jH
    have e:=(sM N).1 x (by omega) hD (by omega)
    rcases x with ⟨iY,jc,ja,jd,jb,iZ⟩
    simp(disch:=omega)only[go_sem,simprocAttr]at e
    refine ap ?_
    refine D.P (e) ?_
    refine D.ij ?_
    refine D.ij ?_
    refine ap ?_
    exact D.rx
   ·match l,aW with
    |[x],_=>
    simp only[nC,aW0]at hD
    simp only[au.cf]at dl
    have jH:(o++lq x (dx x) 7).length≤1000000000:=an
    simp only[aT2]at jH
    have e:=(sM N).2 x 7 (by omega) hD (by omega)
    show ay aS9 _ _ _ _ (xJ (.str (o++lq x (dx x) 7)) [] []) _ _
    generalize lq x (dx x) 7=qJ at e jH ⊢
    clear an yA
    rcases x with ⟨iY,jc,ja,jd,jb,iZ⟩
    simp(disch:=omega)only[go_sem,simprocAttr]at e
    iterate 7 refine uo ?_
    repeat refine D.iv true true ?_
    refine ay.kG (anns:=[.str qJ]) ?_
    refine dM ?_
    refine D.ig (e) ?_
    refine D.ij ?_ (hb:=by simp only[maxLen]; omega)
    refine ap ?_
    exact D.rx
   ·match l,aW with
    |[x,y],_=>
    simp only[nC,aW0,aT0]at hD
    simp only[au.cf]at dl
    have jH:(lq x (dx x) (jM o)++[32]++o++[32]++lq y (dx y) (jM o+1)).length≤1000000000:=an
    simp only[aT2,aT3,aU1]at jH
    have e:=(sM N).2 x (jM o) (by omega) hD.1 (by omega)
    have aq:=(sM N).2 y (jM o+1) (by omega) hD.2 (by omega)
    show ay aS9 _ _ _ _ (xJ (.str (lq x (dx x) (jM o)++[32]++o++[32]++lq y (dx y) (jM o+1))) [] []) _ _
    generalize lq x (dx x) (jM o)=qJ at e jH ⊢
    generalize lq y (dx y) (jM o+1)=aw7 at aq jH ⊢
    have hp:=ag5 o
    have nx:=E8 o
    generalize jM o=jL at*
    clear an yA
    rcases x with ⟨iY,jc,ja,jd,jb,iZ⟩
    rcases y with ⟨uk,B7,B6,xz,xy,B5⟩
    simp(disch:=omega)only[go_sem,simprocAttr]at e
    simp(disch:=omega)only[go_sem,simprocAttr]at aq
    iterate 7 refine uo ?_
    repeat refine D.iv true true ?_
    refine ay.dr ?_
    refine dM ?_
    refine D.P (nx) ?_
    refine dM ?_
    repeat refine D.iv true true ?_
    refine ay.kG (anns:=[.str qJ,.str aw7]) ?_
    refine dM ?_
    refine D.ig (e) ?_
    refine D.ij ?_
    refine dM ?_
    refine D.ij ?_
    refine D.ij ?_
    refine dM ?_
    refine D.ig (aq) ?_
    refine D.ij ?_
    refine ap ?_
    exact D.rx
  refine⟨key,fun x k dl bm an=> ?_⟩
  have nx:=E8 x.op
  by_cases ef:x.kind=6
  ·by_cases hk:jM x.op<k
   ·have nF:lq x (dx x) k=[40]++dx x++[41]:=if_pos ⟨ef,hk⟩
    rw[nF]at an ⊢
    simp only[aT2,aT3,aU1]at an
    have e:=key x dl bm (by omega)
    generalize dx x=qJ at*
    rcases x with ⟨iY,jc,ja,jd,jb,iZ⟩
    simp only[au.kind,au.op]at ef hk nx
    subst ef
    simp(disch:=omega)only[go_sem,simprocAttr]at e
    refine dt bk Tryz.func314 CH (by simp only[b9,I.flat,au.er,aT7]) rfl ?_
    unfold AA BG
    simp(disch:=omega)only[go_sem,simprocAttr]
    refine ap ?_
    refine D.P (nx) ?_
    (have ax:=hk;refine bI ?_;clear ax)
    refine D.P (e) ?_
    refine D.ij ?_
    refine D.ij ?_
    refine ap ?_
    exact D.rx
   ·have nF:lq x (dx x) k=dx x:=if_neg fun h=>hk h.2
    rw[nF]at an ⊢
    have e:=key x dl bm (by omega)
    generalize dx x=qJ at*
    rcases x with ⟨iY,jc,ja,jd,jb,iZ⟩
    simp only[au.kind,au.op]at ef hk nx
    subst ef
    simp(disch:=omega)only[go_sem,simprocAttr]at e
    refine dt bk Tryz.func314 CH (by simp only[b9,I.flat,au.er,aT7]) rfl ?_
    unfold AA BG
    simp(disch:=omega)only[go_sem,simprocAttr]
    refine ap ?_
    refine D.P (nx) ?_
    (have ax:=hk;refine bI ?_;clear ax)
    refine D.P (e) ?_
    refine ap ?_
    exact D.rx
  ·have nF:lq x (dx x) k=dx x:=if_neg fun h=>ef h.1
   rw[nF]at an ⊢
   have e:=key x dl bm (by omega)
   generalize dx x=qJ at*
   rcases x with ⟨iY,jc,ja,jd,jb,iZ⟩
   simp only[au.kind]at ef
   simp(disch:=omega)only[go_sem,simprocAttr]at e
   refine dt bk Tryz.func314 CH (by simp only[b9,I.flat,au.er,aT7]) rfl ?_
   unfold AA BG
   simp(disch:=omega)only[go_sem,simprocAttr]
   (have ax:=ef;refine bI ?_;clear ax)
   refine D.P (e) ?_
   refine ap ?_
   exact D.rx
end
section
attribute [local go_sem] gQ qb au.di au.cQ au.er ao.di ao.cQ ao.er ca dB
theorem ai4 (k n:Int) (s:bT) (bb:k≠2→ -1000000000≤n∧n≤1000000000) (an:s.length≤100000000):Pure aS9 218 [.agg [.int .i64 k,.int .i64 n,.str s]] (.str (wT k n s)):=by
 refine dt bk Tryz.func218 Te rfl rfl ?_
 unfold Jj OV
 unfold wT
 simp(disch:=omega)only[go_sem,simprocAttr]
 by_cases h:k=2
 ·rw[if_pos h]
  (have ax:=h;refine bI ?_;clear ax)
  refine D.P (NX s an) ?_
  refine ap ?_
  exact D.rx
 ·rw[if_neg h]
  (have ax:=h;refine bI ?_;clear ax)
  refine D.P (zb n (bb h).1 (bb h).2) ?_
  refine ap ?_
  exact D.rx
theorem YU {xs:List bT}{sep s:bT}(h:s∈xs):s.length≤(Lib.join xs sep).length:=by
 unfold Lib.join
 induction xs with
 |nil=>cases h
 |cons x l b8=>
  cases l with
  |nil=>simp at h; subst h; simp
  |cons y l=>
   rw[List.intercalate_cons_cons]
   rcases List.mem_cons.1 h with rfl|h
   ·simp only[aT2]; omega
   ·have:=b8 h
    simp only[aT2]; omega
theorem ai5 (l:List au) (aL:au.cf l≤1000000) (bm:l.all iC=true) (an:(Lib.join (l.map dx) [44,32]).length≤1000000000):Pure aS9 222 [.ak 6 (l.map au.row)] (.str (Lib.join (l.map dx) [44,32])):=by
 have li:=au.iE l
 have rm:=NC (l.map dx) [44,32] (by rw[aT1]; omega) an
 refine dt bk Tryz.func222 Th (by simp only[b9,I.flat,au.cQ,aT7]) rfl ?_
 unfold Jl OY
 simp(disch:=omega)only[go_sem,simprocAttr]
 iterate 2 refine uo ?_
 refine ay.uJ 3 1 9 rfl (by decide) ?_
 simp(disch:=omega)only[go_sem,simprocAttr]
 refine ap ?_
 refine ay.dq (X:=Nat) 0 (fun i=>[(6,.ak 6 (l.map au.row)),(7,.int .i64 ((l.map au.row).length:Int)),(8,.int .i64 (i:Int)),(3,.own 0 1 (((l.take i).map dx).map ca))]) (fun _=>[]) (fun i=>[(0,.bP 9 1 (((l.take i).map dx).map ca).length)]) (fun i=>i≤l.length) (fun i=>l.length-i) (aT8 _) ⟨rfl,rfl,rfl,rfl,trivial⟩ trivial ⟨rfl,trivial⟩ ?_
 intro i ae
 try simp only at ae ⊢
 cases ad:l[i]? with
 |some v=>
  have cL:=(List.getElem?_eq_some_iff.1 ad).1
  have od:=aT6 ad
  have fA:((l.take (i+1)).map dx).map ca=((l.take i).map dx).map ca++[ca (dx v)]:=by
   rw[aW8,ad]; simp
  have hlen:(((l.take i).map dx).map ca).length=i:=by simp; omega
  have d1:(i:Int)<((l.map au.row).length:Int):=by rw[aT1]; omega
  have e:=(sM 1000000).1 v (by have:=au.tN od; omega) (by simpa using List.all_eq_true.1 bm v od) (aX0 (YU (List.mem_map_of_mem od)) an)
  obtain⟨QA,X9⟩: ∃QA,QA=dx v:=⟨_,rfl⟩
  rw[←X9]at e fA
  generalize ((l.take i).map dx).map ca=rows at fA hlen ⊢
  rcases v with ⟨iY,jc,ja,jd,jb,iZ⟩
  simp(disch:=omega)only[go_sem,simprocAttr]at e
  (have ax:=d1;refine bI ?_;clear ax)
  refine D.P (e) ?_
  refine ap ?_
  refine D.jz ?_
  refine ap ?_
  refine ay.lU (i+1) (by omega) ⟨rfl,rfl,by simp only[aT5]; rfl,by simp only[fA]; rfl,trivial⟩ trivial ⟨by simp only[fA,aT2]; rfl,trivial⟩ rfl (by simp only[jp,dE,eP,eQ,jg,I.dC,bB.bP,dB,go_sem]<;>rfl) (by show l.length-(i+1)<l.length-i; omega)
 |none=>
  have ck:=List.getElem?_eq_none_iff.1 ad
  have ch:i=l.length:=by omega
  subst ch
  have d1: ¬(l.length:Int)<((l.map au.row).length:Int):=by rw[aT1]; omega
  rw[aX9]
  (have ax:=d1;refine bI ?_;clear ax)
  refine D.P (rm) ?_
  refine ap ?_
  exact D.rx
end
section
attribute [local go_sem] gQ qb au.di au.cQ au.er ao.di ao.cQ ao.er ca dB
theorem Cz (d:Nat):BT 304 [.int .i64 (d:Int)]:= .inr ⟨rfl,_,rfl⟩
theorem V9 {ps:List bT}{i:Nat}{v:bT}(h:ps[i]? =some v):(ps.take (i+1)).flatten=(ps.take i).flatten++v:=by
 rw[aW8,h]; simp
theorem KA (ps:List bT) (i:Nat):(ps.take i).flatten.length≤ps.flatten.length:=by
 conv=>rhs; rw[←bc1 i ps]
 rw[bf0,aT2]
 omega
theorem oq (d:Nat) (bw:d≤1000000){A:I}(eE:zK A) (out:bT) (ps:List bT) (bb:ps.length≤1000) (aE:out.length+(fE d ps).length≤1000000000):aY aS9 216 [.ptr 0 0,.ak 1 (ps.map ca)] (q9 304 A out [.int .i64 (d:Int)]) (c8 (.cV []) (p6 304 (.ptr 0 0) (out++fE d ps) [.int .i64 (d:Int)]) (qa (out++fE d ps))):=by
 have kv:out.length+(d+ps.flatten.length+1)≤1000000000:=by
  simp only[fE,aT2,aX8,aT3,aU1]at aE
  omega
 have ch:=NW (Cz d) eE out (aU2 d 9) (by rw[aX8]; omega)
 have VP:=ad8 d bw
 have wO:(aU2 d (9:UInt8)).length=d:=aX8
 unfold fE
 generalize aU2 d (9:UInt8)=qK at*
 rcases eE with rfl|rfl
 all_goals
  have bs:=kv
  refine aY.intro bk Tryz.func216 Td ?_
  unfold Ji OU
  simp(disch:=omega)only[go_sem,simprocAttr]
  repeat refine D.iv true true ?_
  refine ay.kG (anns:=[.str qK]) ?_
  refine dM ?_
  refine D.ig (VP) ?_
  refine dM ?_
  refine D.F ⟨[0],[0]⟩ (ch) ?_
  refine ap ?_
  refine ay.dq (X:=Nat) 0 (fun i=>[(0,.ptr 0 0),(15,.ak 1 (ps.map ca)),(16,.int .i64 ((ps.map ca).length:Int)),(17,.int .i64 (i:Int))]) (fun i=>[(0,304,[.ptr 0 0,.own 0 1 ((out++qK++(ps.take i).flatten).map gQ),.int .i64 (d:Int)])]) (fun i=>[(0,.bP 5 1 ((out++qK++(ps.take i).flatten).map gQ).length)]) (fun i=>i≤ps.length) (fun i=>ps.length-i) (aT8 _) ⟨rfl,rfl,rfl,rfl,trivial⟩ ⟨by simp only[aX5,aW2,aV7]; rfl,trivial⟩ ⟨by simp only[aX5,aW2,aV7]; rfl,trivial⟩ ?_
  intro i ae
  try simp only at ae ⊢
  have wJ:=KA ps i
  cases ad:ps[i]? with
  |some v=>
   have cL:=(List.getElem?_eq_some_iff.1 ad).1
   have fA:=V9 ad
   have Ll:=KA ps (i+1)
   rw[fA,aT2]at Ll
   have d1:(i:Int)<((ps.map ca).length:Int):=by rw[aT1]; omega
   have hi:(out++qK++(ps.take i).flatten).length+v.length≤1000000000:=by simp only[aT2]; omega
   have ky:out++qK++(ps.take (i+1)).flatten=(out++qK++(ps.take i).flatten)++v:=by rw[fA,aU9,aU9,aU9]
   generalize out++qK++(ps.take i).flatten=Y at hi ky ⊢
   (have ax:=d1;refine bI ?_;clear ax)
   refine D.F ⟨[0],[0]⟩ (NW (Cz d) (.inr rfl) Y v hi) ?_
   refine ap ?_
   refine ay.fH (i+1) (by omega) ⟨rfl,rfl,rfl,by simp only[aT5]; rfl,trivial⟩ (by simp only[ky]; exact⟨rfl,trivial⟩) (by simp only[ky]; exact⟨rfl,trivial⟩) rfl rfl (by show ps.length-(i+1)<ps.length-i; omega)
  |none=>
   have ck:=List.getElem?_eq_none_iff.1 ad
   have ch:i=ps.length:=by omega
   subst ch
   have d1: ¬(ps.length:Int)<((ps.map ca).length:Int):=by rw[aT1]; omega
   rw[aX9]
   have hi:(out++qK++ps.flatten).length+1≤1000000000:=by simp only[aT2]; omega
   rw[show out++(qK++ps.flatten++[10])=(out++qK++ps.flatten)++[10] by simp only[aU9]]
   generalize out++qK++ps.flatten=Y at hi ⊢
   (have ax:=d1;refine bI ?_;clear ax)
   refine D.F ⟨[0],[0]⟩ (xb (Cz d) (.inr rfl) Y 10 10 rfl hi) ?_
   refine ap ?_
   refine D.r ?_
   exact⟨rfl,⟨rfl,trivial⟩,rfl,trivial⟩
end
section
attribute [local go_sem] gQ qb au.di au.cQ au.er ao.di ao.cQ ao.er ca dB
abbrev vv (out:bT) (d:Nat):ey:=p6 304 (.ptr 0 0) out [.int .i64 (d:Int)]
theorem NO (d:Nat){l:List ao}{i:Nat}{v:ao}(h:l[i]? =some v):ao.fG d (l.take (i+1))=ao.fG d (l.take i)++ao.jL d [105,102,32] v:=by
 have eH: ∀a b:List ao,ao.fG d (a++b)=ao.fG d a++ao.fG d b:=by
  intro a
  induction a with
  |nil=>intro b; rfl
  |cons x a b8=>intro b; simp only[aU4,ao.fG,b8 b,aU9]
 rw[aW8,h,eH]
 simp only[bi2,ao.fG,aV7]
theorem NN (d:Nat) (l:List ao) (i:Nat):(ao.fG d (l.take i)).length≤(ao.fG d l).length:=by
 induction l generalizing i with
 |nil=>simp
 |cons x l b8=>
  cases i with
  |zero=>simp [ao.fG]
  |succ i=>
   simp only[aY1,ao.fG,aT2]
   have:=b8 i
   omega
theorem ag7 (d:Nat){l:List ao}{i:Nat}{v:ao}(h:l[i]? =some v):(ao.fG d (l.take i)).length+(ao.jL d [105,102,32] v).length≤(ao.fG d l).length:=by
 have:=NN d l (i+1)
 rw[NO d h,aT2]at this
 exact this
def zT (N:Nat):Prop:=∀(x:ao) (d:Nat) (out:bT),x.cJ≤N→ku x=true→d+x.cJ≤1000000→out.length+(ao.jL d [105,102,32] x).length≤1000000000→aY aS9 313 [.ptr 0 0,.agg x.row] (q9 304 (.ptr 0 0) out [.int .i64 (d:Int)]) (c8 (.cV []) (vv (out++ao.jL d [105,102,32] x) d) (qa (out++ao.jL d [105,102,32] x)))
def Cg (N:Nat):Prop:=∀(l:List ao) (d:Nat) (out:bT),ao.cf l≤N→lg l=true→d+1+ao.cf l≤1000000→out.length+(ao.fG (d+1) l).length≤1000000000→aY aS9 220 [.ptr 0 0,.ak 11 (l.map ao.row)] (q9 304 (.ptr 0 0) out [.int .i64 (d:Int)]) (c8 (.cV []) (vv (out++ao.fG (d+1) l) d) (qa (out++ao.fG (d+1) l)))
theorem NG {N:Nat}(kP:zT N):Cg N:=by
 intro l d out dl bm bw aE
 have li:=ao.iE l
 rw[yf]at bm
 refine aY.intro bk Tryz.func220 Tf ?_
 unfold Jk OW
 simp(disch:=omega)only[go_sem,simprocAttr]
 refine ap ?_
 refine ay.dq (X:=Nat) 0 (fun i=>[(0,.ptr 0 0),(13,.ak 11 (l.map ao.row)),(14,.int .i64 ((l.map ao.row).length:Int)),(15,.int .i64 (i:Int))]) (fun i=>vv (out++ao.fG (d+1) (l.take i)) (d+1)) (fun i=>qa (out++ao.fG (d+1) (l.take i))) (fun i=>i≤l.length) (fun i=>l.length-i) (aT8 _) ⟨rfl,rfl,rfl,rfl,trivial⟩ ⟨by simp only[aX5,ao.fG,aV7,aT5]; rfl,trivial⟩ ⟨by simp only[aX5,ao.fG,aV7]; rfl,trivial⟩ ?_
 intro i ae
 try simp only at ae ⊢
 have wJ:=NN (d+1) l i
 cases ad:l[i]? with
 |some v=>
  have cL:=(List.getElem?_eq_some_iff.1 ad).1
  have od:=aT6 ad
  have aO1:=ao.tN od
  have uX:ku v=true:=by simpa using List.all_eq_true.1 bm v od
  have Ll:=ag7 (d+1) ad
  have ky:out++ao.fG (d+1) (l.take (i+1))=(out++ao.fG (d+1) (l.take i))++ao.jL (d+1) [105,102,32] v:=by rw[NO _ ad,aU9]
  have d1:(i:Int)<((l.map ao.row).length:Int):=by rw[aT1]; omega
  have hi:(out++ao.fG (d+1) (l.take i)).length+(ao.jL (d+1) [105,102,32] v).length≤1000000000:=by simp only[aT2]; omega
  generalize out++ao.fG (d+1) (l.take i)=Y at hi ky ⊢
  have e:=kP v (d+1) Y (by omega) uX (by omega) hi
  generalize ao.jL (d+1) [105,102,32] v=nM at e ky
  rcases v with ⟨eX,ab0,⟨aJ0,aJ4,aJ2,aJ5,aJ3,aJ1⟩,ay0,ar8,ar9⟩
  simp(disch:=omega)only[go_sem,simprocAttr]at e
  (have ax:=d1;refine bI ?_;clear ax)
  refine D.F ⟨[0],[0]⟩ (e) ?_
  refine ap ?_
  refine ay.lU (i+1) (by omega) ⟨rfl,rfl,rfl,by simp only[aT5]; rfl,trivial⟩ (by simp only[ky,vv,p6,aT5]; exact⟨rfl,trivial⟩) (by simp only[ky]; exact⟨rfl,trivial⟩) rfl (by simp only[jp,dE,eP,eQ,jg,I.dC,bB.bP,vv,p6,qb,ao.cQ,go_sem]<;>rfl) (by show l.length-(i+1)<l.length-i; omega)
 |none=>
  have ck:=List.getElem?_eq_none_iff.1 ad
  have ch:i=l.length:=by omega
  subst ch
  have d1: ¬(l.length:Int)<((l.map ao.row).length:Int):=by rw[aT1]; omega
  rw[aX9]
  (have ax:=d1;refine bI ?_;clear ax)
  refine D.r ?_
  refine⟨rfl,⟨?_,trivial⟩,rfl,trivial⟩
  simp only[vv,p6]
  rw[show ((d+1:Nat):Int)-1=(d:Int) by omega]
  rfl
theorem D1 {k:Int}{m:bT}{t:Int}{kW bN:Nat}(h:fk k m t kW bN=true):(k=1∧t=0∧kW=0∧bN=0)∨(k=2∧m=[]∧t=0)∨(k=3∧m=[]∧1≤t∧t≤50∧bN=0):=by
 unfold fk at h
 by_cases h1:k=1
 ·simp [h1]at h; simp [h1,h.2.1,h.2.2.1,h.2.2.2]
 by_cases J:k=2
 ·simp [J]at h; simp [J,h.1,h.2]
 by_cases aA:k=3
 ·simp [aA]at h; simp [aA,h.1,h.2.1,h.2.2.1,h.2.2.2]
 simp [h1,J,aA]at h
theorem xi {d:Nat}{s:bT}{ps:List bT}(h:s∈ps):s.length≤(fE d ps).length:=by
 have: ∀(l:List bT),s∈l→s.length≤l.flatten.length:=by
  intro l
  induction l with
  |nil=>intro h; cases h
  |cons x l b8=>
   intro h
   rw[aU3,aT2]
   rcases List.mem_cons.1 h with rfl|h
   ·omega
   ·have:=b8 h; omega
 have:=this ps h
 simp only[fE,aT2]
 omega
theorem ag9 {N:Nat}(eh:Cg N):zT (N+1):=by
 rintro⟨k,hF,x,t,jO,k0⟩ d out dl bm bw aE
 simp only[ao.cJ]at dl bw
 simp only[ku,aT0]at bm
 obtain⟨a8,tG,tF,oa⟩:=bm
 have K8:x.cJ≤1000000:=by omega
 rcases D1 a8 with ⟨rfl,rfl,J,aA⟩|⟨rfl,rfl,rfl⟩|⟨rfl,rfl,h1,J,aA⟩
 ·have ch:ao.jL d [105,102,32] (.mk 1 hF x 0 jO k0)=fE d [hF,[32,61,32],dx x,[59]]:=by simp only[ao.jL,if_true]
  rw[ch]at aE ⊢
  have an:(dx x).length≤1000000000:=by have:=xi (d:=d) (s:=dx x) (ps:=[hF,[32,61,32],dx x,[59]]) (by simp); omega
  have e:=(sM 1000000).1 x K8 tG an
  have el:=oq d (by omega) (.inr rfl) out [hF,[32,61,32],dx x,[59]] (by simp) aE
  generalize fE d [hF,[32,61,32],dx x,[59]]=L at*
  generalize dx x=qJ at*
  rcases x with ⟨iY,jc,ja,jd,jb,iZ⟩
  simp(disch:=omega)only[go_sem,simprocAttr]at e
  refine aY.intro bk Tryz.func313 CG ?_
  unfold Az BF
  simp(disch:=omega)only[go_sem,simprocAttr]
  iterate 3 refine uo ?_
  repeat refine D.iv true true ?_
  refine ay.kG (anns:=[.str qJ]) ?_
  refine dM ?_
  refine D.ig (e) ?_
  refine dM ?_
  refine D.F ⟨[0],[0]⟩ (el) ?_
  refine ap ?_
  refine D.r ?_
  exact⟨rfl,⟨rfl,trivial⟩,rfl,trivial⟩
 ·have cM: ∃F,F=out++ao.jL d [105,102,32] (.mk 2 [] x 0 jO k0):=⟨_,rfl⟩
  obtain⟨F,cM⟩:=cM
  have KZ:F.length≤1000000000:=by rw[cM,aT2]; omega
  rw[←cM]
  rcases x with ⟨iY,jc,ja,jd,jb,iZ⟩
  refine aY.intro bk Tryz.func313 CG ?_
  unfold Az BF
  simp(disch:=omega)only[go_sem,simprocAttr]
  iterate 4 refine uo ?_
  refine ap ?_
  refine ay.dq (X:=bT×au×List ao×List ao×bT) ([105,102,32],.mk iY jc ja jd jb iZ,jO,k0,out) (fun y=>[(0,.ptr 0 0),(3,.ptr 1 0),(4,.str y.1)]) (fun y=>[(0,304,[.ptr 0 0,.own 0 1 (y.2.2.2.2.map gQ),.int .i64 (d:Int)]),(1,82,(ao.mk 2 [] y.2.1 0 y.2.2.1 y.2.2.2.1).row)]) (fun y=>[(0,.bP 5 1 (y.2.2.2.2.map gQ).length)]) (fun y=>iC y.2.1=true∧lg y.2.2.1=true∧lg y.2.2.2.1=true∧y.2.1.cJ+ao.cf y.2.2.1+ao.cf y.2.2.2.1≤N∧d+(1+y.2.1.cJ+ao.cf y.2.2.1+ao.cf y.2.2.2.1)≤1000000∧F=y.2.2.2.2++ao.jL d y.1 (.mk 2 [] y.2.1 0 y.2.2.1 y.2.2.2.1)) (fun y=>ao.cf y.2.2.2.1) ⟨tG,tF,oa,by simp only; omega,by simp only; omega,cM⟩ ⟨rfl,rfl,rfl,trivial⟩ ⟨rfl,by simp only[ao.di,au.di]; rfl,trivial⟩ ⟨rfl,trivial⟩ ?_
  rintro⟨DX,x,a,b,O⟩ ⟨tG,tF,oa,dl,bw,cM⟩
  simp only at tG tF oa dl bw cM ⊢
  have hO:=congrArg bl3 cM
  simp only[ao.jL,show ¬(2:Int)=1 by decide,show ¬(2:Int)=3 by decide,if_false]at cM
  obtain⟨L,dK⟩: ∃L,L=fE d [DX,dx x,[32,123]]:=⟨_,rfl⟩
  obtain⟨qV,ss⟩: ∃qV,qV=ao.fG (d+1) a:=⟨_,rfl⟩
  obtain⟨T,dj⟩: ∃T,T=(if wW b=true then ao.x8 d b else (if b.isEmpty=true then[] else fE d [[125,32,101,108,115,101,32,123]]++ao.fG (d+1) b)++fE d [[125]]):=⟨_,rfl⟩
  rw[←dK,←ss,←dj]at cM
  have WE:O.length+L.length+qV.length+T.length=F.length:=by rw[cM]; simp only[aT2]; omega
  have an:(dx x).length≤1000000000:=by have:=xi (d:=d) (s:=dx x) (ps:=[DX,dx x,[32,123]]) (by simp); rw[←dK]at this; omega
  have e:=(sM 1000000).1 x (by omega) tG an
  have el:=oq d (by omega) (.inr rfl) O [DX,dx x,[32,123]] (by simp) (by rw[←dK]; omega)
  rw[←dK]at el
  have iN:=eh a d (O++L) (by omega) tF (by omega) (by rw[←ss,aT2]; omega)
  rw[←ss]at iN
  clear dK ss hO
  generalize dx x=qJ at*
  rcases x with ⟨iY,jc,ja,jd,jb,iZ⟩
  simp only[ao.di,au.di]
  simp(disch:=omega)only[go_sem,simprocAttr]at e
  refine ap ?_
  refine D.P (e) ?_
  refine ap ?_
  refine D.F ⟨[0],[0]⟩ (el) ?_
  refine ap ?_
  refine D.F ⟨[0],[0]⟩ (iN) ?_
  have wB:F=(O++L++qV)++T:=by rw[cM]; simp only[aU9]
  have K0:(O++L++qV).length+T.length≤1000000000:=by simp only[aT2]; omega
  generalize O++L++qV=Y at wB K0 ⊢
  clear cM WE el iN e
  by_cases yi:b=[]
  ·subst yi
   simp only[wW,List.isEmpty_nil,aU6,if_false,if_true,aV1]at dj
   have qh:=oq d (by omega) (.inr rfl) Y [[125]] (by simp) (by rw[←dj]; exact K0)
   rw[←dj,←wB]at qh
   refine ap ?_
   refine D.F ⟨[0],[0]⟩ (qh) ?_
   refine ap ?_
   refine D.r ?_
   exact⟨rfl,⟨rfl,trivial⟩,rfl,trivial⟩
  cases e9:wW b with
  |true=>
   rw[e9,if_pos rfl]at dj
   match b,e9,oa,dl,bw,dj with
   |[.mk uk xy Rf xz ju jo],e9,oa,dl,bw,dj=>
   have e9:uk=2:=of_decide_eq_true e9
   subst e9
   simp only[lg,ku,aW0,aT0]at oa
   obtain⟨Yo,Yq,Ym,Yn⟩:=oa
   rcases D1 Yo with ⟨h,_⟩|⟨_,rfl,rfl⟩|⟨h,_⟩
   ·cases h
   rotate_left
   ·cases h
   simp only[ao.cf,ao.cJ]at dl bw
   simp only[ao.x8]at dj
   rw[dj]at wB
   have Yp:ao.cf jo<ao.cf [ao.mk 2 [] Rf 0 ju jo]:=by simp only[ao.cf,ao.cJ]; omega
   rcases Rf with ⟨Rg,Rk,Ri,Rl,Rj,Rh⟩
   refine ap ?_
   refine ay.fH ([125,32,101,108,115,101,32,105,102,32],.mk Rg Rk Ri Rl Rj Rh,ju,jo,Y) ⟨Yq,Ym,Yn,by simp only; omega,by simp only; omega,wB⟩ ⟨rfl,rfl,rfl,trivial⟩ ⟨rfl,by simp only[ao.di,au.di]; rfl,trivial⟩ ⟨rfl,trivial⟩ rfl rfl Yp
  |false=>
   have Lj:b.isEmpty=false:=by cases b with|nil=>exact absurd rfl yi|cons _ _=>rfl
   rw[e9,Lj]at dj
   simp only[aU6,if_false]at dj
   obtain⟨r4,AT⟩: ∃r4,r4=fE d [[125,32,101,108,115,101,32,123]]:=⟨_,rfl⟩
   obtain⟨zL,AS⟩: ∃zL,zL=ao.fG (d+1) b:=⟨_,rfl⟩
   obtain⟨E,dp⟩: ∃E,E=fE d [[125]]:=⟨_,rfl⟩
   rw[←AT,←AS,←dp]at dj
   have K2:=congrArg bl3 dj
   simp only[aT2]at K2
   have aj:=oq d (by omega) (.inr rfl) Y [[125,32,101,108,115,101,32,123]] (by simp) (by rw[←AT]; omega)
   rw[←AT]at aj
   have aq:=eh b d (Y++r4) (by omega) oa (by omega) (by rw[←AS,aT2]; omega)
   rw[←AS]at aq
   have bD:=oq d (by omega) (.inr rfl) (Y++r4++zL) [[125]] (by simp) (by rw[←dp]; simp only[aT2]; omega)
   rw[←dp]at bD
   have KY:F=Y++r4++zL++E:=by rw[wB,dj]; simp only[aU9]
   clear dj AT AS dp wB K2
   by_cases hlen:b.length=1
   focus
    match b,hlen,e9 with
    |[.mk uk xy ⟨Rg,Rk,Ri,Rl,Rj,Rh⟩ xz ju jo],_,e9=>
    have e9: ¬uk=2:=of_decide_eq_false e9
    simp(disch:=omega)only[go_sem,simprocAttr]at aq
    (have ax:=e9;refine bI ?_;clear ax)
    refine D.F ⟨[0],[0]⟩ (aj) ?_
    refine ap ?_
    refine D.F ⟨[0],[0]⟩ (aq) ?_
    refine ap ?_
    refine D.F ⟨[0],[0]⟩ (bD) ?_
    refine ap ?_
    refine D.r ?_
    rw[KY]
    exact⟨rfl,⟨rfl,trivial⟩,rfl,trivial⟩
   have mb:0<b.length:=by cases b with|nil=>exact absurd rfl yi|cons _ _=>simp
   have d5: ¬((b.map ao.row).length:Int)=1:=by rw[aT1]; omega
   have d6:(0:Int)<((b.map ao.row).length:Int):=by rw[aT1]; omega
   (have ax:=d5;have z2:=d6;refine fX ?_;clear ax z2)
   refine D.F ⟨[0],[0]⟩ (aj) ?_
   refine ap ?_
   refine D.F ⟨[0],[0]⟩ (aq) ?_
   refine ap ?_
   refine D.F ⟨[0],[0]⟩ (bD) ?_
   refine ap ?_
   refine D.r ?_
   rw[KY]
   exact⟨rfl,⟨rfl,trivial⟩,rfl,trivial⟩
 ·have ch:ao.jL d [105,102,32] (.mk 3 [] x t jO k0)=fE d [[119,104,105,108,101,32],dx x,[32,116,105,109,101,115,32],Lib.itoa t,[32,123]]++ao.fG (d+1) jO++fE d [[125]]:=by simp only[ao.jL,show ¬(3:Int)=1 by decide,if_false,if_true]
  rw[ch]at aE ⊢
  obtain⟨L,dK⟩: ∃L,L=fE d [[119,104,105,108,101,32],dx x,[32,116,105,109,101,115,32],Lib.itoa t,[32,123]]:=⟨_,rfl⟩
  obtain⟨qV,ss⟩: ∃qV,qV=ao.fG (d+1) jO:=⟨_,rfl⟩
  obtain⟨E,dp⟩: ∃E,E=fE d [[125]]:=⟨_,rfl⟩
  rw[←dK,←ss,←dp]at aE ⊢
  simp only[aT2]at aE
  have an:(dx x).length≤1000000000:=by have:=xi (d:=d) (s:=dx x) (ps:=[[119,104,105,108,101,32],dx x,[32,116,105,109,101,115,32],Lib.itoa t,[32,123]]) (by simp); rw[←dK]at this; omega
  have e:=(sM 1000000).1 x K8 tG an
  have tq:=zb t (by omega) (by omega)
  have el:=oq d (by omega) (.inr rfl) out [[119,104,105,108,101,32],dx x,[32,116,105,109,101,115,32],Lib.itoa t,[32,123]] (by simp) (by rw[←dK]; omega)
  rw[←dK]at el
  have iN:=eh jO d (out++L) (by omega) tF (by omega) (by rw[←ss,aT2]; omega)
  rw[←ss]at iN
  have qh:=oq d (by omega) (.inr rfl) (out++L++qV) [[125]] (by simp) (by rw[←dp]; simp only[aT2]; omega)
  rw[←dp]at qh
  clear dK ss dp
  generalize dx x=qJ at*
  generalize Lib.itoa t=at1 at*
  rcases x with ⟨iY,jc,ja,jd,jb,iZ⟩
  simp(disch:=omega)only[go_sem,simprocAttr]at e
  refine aY.intro bk Tryz.func313 CG ?_
  unfold Az BF
  simp(disch:=omega)only[go_sem,simprocAttr]
  iterate 4 refine uo ?_
  repeat refine D.iv true true ?_
  refine ay.kG (anns:=[.str qJ,.str at1]) ?_
  refine dM ?_
  refine D.ig (e) ?_
  refine dM ?_
  refine D.ig (tq) ?_
  refine dM ?_
  refine D.F ⟨[0],[0]⟩ (el) ?_
  refine ap ?_
  refine D.F ⟨[0],[0]⟩ (iN) ?_
  refine ap ?_
  refine D.F ⟨[0],[0]⟩ (qh) ?_
  refine ap ?_
  refine D.r ?_
  refine⟨rfl,⟨?_,trivial⟩,?_,trivial⟩
  ·simp only[vv,p6,aU9]; rfl
  ·simp only[qa,aU9]; rfl
theorem NP: ∀N,zT N∧Cg N
 |0=>by
  have h:zT 0:=fun x d out h=>by cases x; simp only[ao.cJ]at h; omega
  exact⟨h,NG h⟩
 |N+1=>by
  have h:=ag9 (NP N).2
  exact⟨h,NG h⟩
end
section
attribute [local go_sem] gQ qb au.di au.cQ au.er ao.di ao.cQ ao.er ca dB gz ht eb of_flat bQ.row dZ k7
theorem Bh {α:Type}(f:α→bT){l:List α}{i:Nat}{v:α}(h:l[i]? =some v):((l.take (i+1)).map f).flatten=((l.take i).map f).flatten++f v:=by
 rw[aW8,h]; simp
theorem ZZ {α:Type}(f:α→bT) (l:List α) (i:Nat):((l.take i).map f).flatten.length≤(l.map f).flatten.length:=by
 conv=>rhs; rw[←bc1 i l]
 rw[aV4,bf0,aT2]
 omega
theorem Ew {α:Type}(f:α→bT){l:List α}{i:Nat}{v:α}(h:l[i]? =some v):((l.take i).map f).flatten.length+(f v).length≤(l.map f).flatten.length:=by
 have:=ZZ f l (i+1)
 rw[Bh f h,aT2]at this
 exact this
theorem KK {v:bQ}(h:qn v=true): -1000000000≤v.cm∧v.cm≤1000000000∧ -1000000000≤v.ae∧v.ae≤1000000000∧(v.ei≠2→ -1000000000≤v.n∧v.n≤1000000000)∧v.s.length≤40:=by
 simp only[qn,aT0,sh,decide_eq_true_eq]at h
 obtain⟨_,h1,J,_,aA⟩:=h
 by_cases br:v.ei=1
 ·rw[if_pos br]at aA
  simp only[aT0,decide_eq_true_eq]at aA
  exact⟨by omega,by omega,by omega,by omega,fun _=>by omega,by rw[aA.2]; decide⟩
 rw[if_neg br]at aA
 by_cases bA:v.ei=2
 ·rw[if_pos bA]at aA
  simp only[aT0,decide_eq_true_eq,sR]at aA
  exact⟨by omega,by omega,by omega,by omega,fun h=>absurd bA h,aA.2.1⟩
 ·rw[if_neg bA]at aA
  cases aA
theorem KI {h:bK}(bm:pv h=true):lg h.body=true∧h.ps.length≤4:=by
 simp only[pv,aT0,decide_eq_true_eq]at bm
 rw[yf]
 exact⟨bm.2.2.2.2.1,bm.2.2.1⟩
theorem KJ {o:cC}(bm:pw o=true):o.args.all iC=true∧o.eF.all iC=true∧o.eF.length≤1:=by
 simp only[pw,aT0,decide_eq_true_eq,List.all_append]at bm
 exact⟨bm.2.2.2.2.1.1,bm.2.2.2.2.1.2,bm.2.2.2.1⟩
structure GH (x:c9):Prop where
 ak:x.vars.all qn=true
 an:x.an.all pv=true
 os:x.os.all pw=true
 aL: ∀h∈x.an,ao.cf h.body≤900000
 sH: ∀o∈x.os,au.cf o.args≤900000∧au.cf o.eF≤900000
 mi:x.vars.length≤1000000
 mh:x.an.length≤1000000
 no:x.os.length≤1000000
 len:(s9 x).length≤900000000
theorem al1 (x:c9) (U:GH x):Pure aS9 116 [x.eU] (.str (s9 x)):=by
 have cM:=U.len
 have XS:=U.mi
 have XP:=U.mh
 have XR:=U.no
 obtain⟨F,uO⟩: ∃F,F=s9 x:=⟨_,rfl⟩
 rw[←uO]at cM ⊢
 unfold s9 at uO
 obtain⟨H0,DN⟩: ∃H0,H0=fE 0 [[115,101,114,118,105,99,101,32],x.name,[32,112,108,97,121,115,32],x.role,[32,111,102,32],x.gh,[32,123]]:=⟨_,rfl⟩
 obtain⟨E,dp⟩: ∃E,E=fE 0 [[125]]:=⟨_,rfl⟩
 rw[←DN,←dp]at uO
 have KZ:=congrArg bl3 uO
 simp only[aT2]at KZ
 have aj:=oq 0 (by decide) (.inl rfl) [] [[115,101,114,118,105,99,101,32],x.name,[32,112,108,97,121,115,32],x.role,[32,111,102,32],x.gh,[32,123]] (by simp) (by rw[←DN,aU1]; omega)
 rw[←DN,aV1]at aj
 rw[nO]
 refine dt bk Tryz.func116 Sx (by simp only[b9,I.flat,dZ,eb,of_flat,aT7]) rfl ?_
 unfold IE Oc
 simp(disch:=omega)only[go_sem,simprocAttr]
 iterate 2 refine uo ?_
 refine ay.tx 1 1 1 5 rfl rfl (by decide) ?_
 simp(disch:=omega)only[go_sem,simprocAttr]
 refine ap ?_
 refine D.F ⟨[1],[0]⟩ (aj) ?_
 refine ap ?_
 clear aj
 obtain⟨V,yh⟩: ∃V,V=H0++(x.vars.map ng).flatten:=⟨_,rfl⟩
 have aM1:V.length=H0.length+(x.vars.map ng).flatten.length:=by rw[yh,aT2]
 refine ay.dq (X:=Nat) 0 (fun i=>[(1,.ptr 0 0),(3,.ptr 1 0),(27,.ak 7 (x.vars.map bQ.row)),(28,.int .i64 ((x.vars.map bQ.row).length:Int)),(29,.int .i64 (i:Int))]) (fun i=>[(0,48,x.cells),(1,304,[.ptr 1 0,.own 0 1 ((H0++((x.vars.take i).map ng).flatten).map gQ),.int .i64 1])]) (fun i=>[(0,.bP 5 1 ((H0++((x.vars.take i).map ng).flatten).map gQ).length)]) (fun i=>i≤x.vars.length) (fun i=>x.vars.length-i) (aT8 _) ⟨rfl,rfl,rfl,rfl,rfl,trivial⟩ ⟨rfl,by simp only[aX5,aX6,aW2,aV7]; rfl,trivial⟩ ⟨by simp only[aX5,aX6,aW2,aV7]; rfl,trivial⟩ ?_
 intro i ae
 try simp only at ae ⊢
 cases ad:x.vars[i]? with
 |some v=>
  have cL:=(List.getElem?_eq_some_iff.1 ad).1
  have od:=aT6 ad
  have uX:qn v=true:=by simpa using List.all_eq_true.1 U.ak v od
  have fA:=Bh ng ad
  have hle:=Ew ng ad
  have d1:(i:Int)<((x.vars.map bQ.row).length:Int):=by rw[aT1]; omega
  obtain⟨Y,hi⟩: ∃Y,Y=H0++((x.vars.take i).map ng).flatten:=⟨_,rfl⟩
  have ky:H0++((x.vars.take (i+1)).map ng).flatten=Y++ng v:=by rw[fA,hi,aU9]
  have wC:Y.length+(ng v).length≤900000000:=by rw[hi,aT2]; omega
  obtain⟨g1,g2,g3,g4,g5,g6⟩:=KK uX
  obtain⟨s1,oM⟩: ∃s1,s1=Lib.itoa v.cm:=⟨_,rfl⟩
  obtain⟨s2,oN⟩: ∃s2,s2=Lib.itoa v.ae:=⟨_,rfl⟩
  obtain⟨sP,Eh⟩: ∃sP,sP=wT v.ei v.n v.s:=⟨_,rfl⟩
  have ji:=zb v.cm g1 g2
  have pI:=zb v.ae g3 g4
  have jj:=ai4 v.ei v.n v.s g5 (by omega)
  have wR:ng v=fE 1 [[118,97,114,32],v.name,[58,32],if v.gj=2 then[116,101,120,116,32] else[105,110,116,32],s1,[32,46,46,32],s2,[32,61,32],sP,[59]]:=by rw[oM,oN,Eh]; rfl
  rw[←oM]at ji
  rw[←oN]at pI
  rw[←Eh]at jj
  rw[←hi]
  generalize ng v=L at*
  clear fA hle hi oM oN Eh
  by_cases J:v.gj=2
  focus
   rw[if_pos J]at wR
   have e:=oq 1 (by decide) (.inr rfl) Y [[118,97,114,32],v.name,[58,32],[116,101,120,116,32],s1,[32,46,46,32],s2,[32,61,32],sP,[59]] (by simp) (by rw[←wR]; omega)
   rw[←wR]at e
   (have ax:=d1;have z2:=J;refine lY ?_;refine lY ?_;refine lY ?_;refine lY ?_;refine lY ?_;clear ax z2)
   (have ax:=d1;have z2:=J;refine zO ?_;clear ax z2)
  rotate_left
  focus
   rw[if_neg J]at wR
   have e:=oq 1 (by decide) (.inr rfl) Y [[118,97,114,32],v.name,[58,32],[105,110,116,32],s1,[32,46,46,32],s2,[32,61,32],sP,[59]] (by simp) (by rw[←wR]; omega)
   rw[←wR]at e
   (have ax:=d1;have z2:=J;refine lY ?_;refine lY ?_;refine lY ?_;refine lY ?_;clear ax z2)
   (have ax:=d1;have z2:=J;refine zO ?_;clear ax z2)
  all_goals
   refine ay.kG (anns:=[.str s1,.str s2,.str sP]) ?_
   (have ax:=J;refine sY ?_;clear ax)
   refine D.ig (ji) ?_
   refine dM ?_
   refine D.ig (pI) ?_
   refine dM ?_
   refine D.ig (jj) ?_
   refine dM ?_
   refine D.F ⟨[1],[0]⟩ (e) ?_
   refine ap ?_
   refine ay.lU (i+1) (by omega) ⟨rfl,rfl,rfl,rfl,by simp only[aT5]; rfl,trivial⟩ (by simp only[ky]; exact⟨rfl,rfl,trivial⟩) (by simp only[ky]; exact⟨rfl,trivial⟩) rfl (by simp only[jp,dE,eP,eQ,jg,I.dC,bB.bP,k7,qb,dZ,eb,of_flat,go_sem]<;>rfl) (by show x.vars.length-(i+1)<x.vars.length-i; omega)
 |none=>
 have ck:=List.getElem?_eq_none_iff.1 ad
 have ch:i=x.vars.length:=by omega
 subst ch
 have d1: ¬(x.vars.length:Int)<((x.vars.map bQ.row).length:Int):=by rw[aT1]; omega
 rw[aX9,←yh]
 rw[←yh]at uO
 clear ae ad ck
 obtain⟨pf,DQ⟩: ∃pf,pf=V++(x.an.map mK).flatten:=⟨_,rfl⟩
 have aM0:pf.length=V.length+(x.an.map mK).flatten.length:=by rw[DQ,aT2]
 (have ax:=d1;refine bI ?_;clear ax)
 refine ay.dq (X:=Nat) 0 (fun i=>[(1,.ptr 0 0),(3,.ptr 1 0),(56,.ak 4 (x.an.map bK.row)),(57,.int .i64 ((x.an.map bK.row).length:Int)),(58,.int .i64 (i:Int))]) (fun i=>[(0,48,x.cells),(1,304,[.ptr 1 0,.own 0 1 ((V++((x.an.take i).map mK).flatten).map gQ),.int .i64 1])]) (fun i=>[(0,.bP 5 1 ((V++((x.an.take i).map mK).flatten).map gQ).length)]) (fun i=>i≤x.an.length) (fun i=>x.an.length-i) (aT8 _) ⟨rfl,rfl,rfl,rfl,rfl,trivial⟩ ⟨rfl,by simp only[aX5,aX6,aW2,aV7]; rfl,trivial⟩ ⟨by simp only[aX5,aX6,aW2,aV7]; rfl,trivial⟩ ?_
 intro i ae
 try simp only at ae ⊢
 cases ad:x.an[i]? with
 |some v=>
  have cL:=(List.getElem?_eq_some_iff.1 ad).1
  have od:=aT6 ad
  have uX:pv v=true:=by simpa using List.all_eq_true.1 U.an v od
  have wF:=U.aL v od
  have fA:=Bh mK ad
  have hle:=Ew mK ad
  have d1:(i:Int)<((x.an.map bK.row).length:Int):=by rw[aT1]; omega
  obtain⟨Y,hi⟩: ∃Y,Y=V++((x.an.take i).map mK).flatten:=⟨_,rfl⟩
  have ky:V++((x.an.take (i+1)).map mK).flatten=Y++mK v:=by rw[fA,hi,aU9]
  have wC:Y.length+(mK v).length≤900000000:=by rw[hi,aT2]; omega
  obtain⟨g1,g2⟩:=KI uX
  obtain⟨s1,oM⟩: ∃s1,s1=Lib.join v.ps [44,32]:=⟨_,rfl⟩
  obtain⟨L,dK⟩: ∃L,L=fE 1 [[111,110,32],v.dw,[40],s1,[41,32,102,114,111,109,32],v.peer,[32,123]]:=⟨_,rfl⟩
  obtain⟨B,eh⟩: ∃B,B=ao.fG (1+1) v.body:=⟨_,rfl⟩
  obtain⟨Z,wD⟩: ∃Z,Z=fE 1 [[125]]:=⟨_,rfl⟩
  have yt:mK v=L++B++Z:=by rw[dK,eh,wD,oM]; rfl
  rw[yt]at wC ky
  simp only[aT2]at wC
  have X5:s1.length≤L.length:=by rw[dK]; exact xi (by simp)
  have ji:=NC v.ps [44,32] (by omega) (by rw[←oM]; omega)
  have e:=oq 1 (by decide) (.inr rfl) Y [[111,110,32],v.dw,[40],s1,[41,32,102,114,111,109,32],v.peer,[32,123]] (by simp) (by rw[←dK]; omega)
  have iN:=(NP 1000000).2 v.body 1 (Y++L) (by omega) g1 (by omega) (by rw[←eh,aT2]; omega)
  have qh:=oq 1 (by decide) (.inr rfl) (Y++L++B) [[125]] (by simp) (by rw[←wD,aT2,aT2]; omega)
  rw[←oM]at ji
  rw[←dK]at e
  rw[←eh]at iN
  rw[←wD]at qh
  have LD:V++((x.an.take (i+1)).map mK).flatten=Y++L++B++Z:=by rw[ky]; simp only[aU9]
  rw[←hi]
  clear fA ky hle hi oM dK eh wD yt
  (have ax:=d1;refine Gs ?_;refine Gs ?_;clear ax)
  (have ax:=d1;refine Cc ?_;clear ax)
  refine ay.kG (anns:=[.str s1]) ?_
  refine dM ?_
  refine D.ig (ji) ?_
  refine dM ?_
  refine D.F ⟨[1],[0]⟩ (e) ?_
  refine ap ?_
  refine D.F ⟨[1],[0]⟩ (iN) ?_
  refine ap ?_
  refine D.F ⟨[1],[0]⟩ (qh) ?_
  refine ap ?_
  refine ay.lU (i+1) (by omega) ⟨rfl,rfl,rfl,rfl,by simp only[aT5]; rfl,trivial⟩ (by simp only[LD]; exact⟨rfl,rfl,trivial⟩) (by simp only[LD]; exact⟨rfl,trivial⟩) rfl (by simp only[jp,dE,eP,eQ,jg,I.dC,bB.bP,k7,qb,dZ,eb,of_flat,go_sem]<;>rfl) (by show x.an.length-(i+1)<x.an.length-i; omega)
 |none=>
 have ck:=List.getElem?_eq_none_iff.1 ad
 have ch:i=x.an.length:=by omega
 subst ch
 have d1: ¬(x.an.length:Int)<((x.an.map bK.row).length:Int):=by rw[aT1]; omega
 rw[aX9,←DQ]
 rw[←DQ]at uO
 clear ae ad ck
 (have ax:=d1;refine bI ?_;clear ax)
 refine ay.dq (X:=Nat) 0 (fun i=>[(1,.ptr 0 0),(3,.ptr 1 0),(81,.ak 4 (x.os.map cC.row)),(82,.int .i64 ((x.os.map cC.row).length:Int)),(83,.int .i64 (i:Int))]) (fun i=>[(1,304,[.ptr 1 0,.own 0 1 ((pf++((x.os.take i).map nK).flatten).map gQ),.int .i64 1])]) (fun i=>[(0,.bP 5 1 ((pf++((x.os.take i).map nK).flatten).map gQ).length)]) (fun i=>i≤x.os.length) (fun i=>x.os.length-i) (aT8 _) ⟨rfl,rfl,rfl,rfl,rfl,trivial⟩ ⟨by simp only[aX5,aX6,aW2,aV7]; rfl,trivial⟩ ⟨by simp only[aX5,aX6,aW2,aV7]; rfl,trivial⟩ ?_
 intro i ae
 try simp only at ae ⊢
 cases ad:x.os[i]? with
 |some v=>
  have cL:=(List.getElem?_eq_some_iff.1 ad).1
  have od:=aT6 ad
  have uX:pw v=true:=by simpa using List.all_eq_true.1 U.os v od
  obtain⟨wF,K7⟩:=U.sH v od
  have fA:=Bh nK ad
  have hle:=Ew nK ad
  have d1:(i:Int)<((x.os.map cC.row).length:Int):=by rw[aT1]; omega
  obtain⟨Y,hi⟩: ∃Y,Y=pf++((x.os.take i).map nK).flatten:=⟨_,rfl⟩
  have ky:pf++((x.os.take (i+1)).map nK).flatten=Y++nK v:=by rw[fA,hi,aU9]
  have wC:Y.length+(nK v).length≤900000000:=by rw[hi,aT2]; omega
  obtain⟨g1,g2,g3⟩:=KJ uX
  obtain⟨s1,oM⟩: ∃s1,s1=Lib.join (v.args.map dx) [44,32]:=⟨_,rfl⟩
  obtain⟨s2,oN⟩: ∃s2,s2=vO v.eF:=⟨_,rfl⟩
  obtain⟨L,dK⟩: ∃L,L=fE 1 [[111,102,102,101,114,32],v.dw,[40],s1,[41,32,116,111,32],v.peer,s2,[59]]:=⟨_,rfl⟩
  have yt:nK v=L:=by rw[dK,oM,oN]; rfl
  rw[yt]at wC ky
  have X5:s1.length≤L.length:=by rw[dK]; exact xi (by simp)
  have aN8:s2.length≤L.length:=by rw[dK]; exact xi (by simp)
  have ji:=ai5 v.args (by omega) g1 (by rw[←oM]; omega)
  have e:=oq 1 (by decide) (.inr rfl) Y [[111,102,102,101,114,32],v.dw,[40],s1,[41,32,116,111,32],v.peer,s2,[59]] (by simp) (by rw[←dK]; omega)
  rw[←oM]at ji
  rw[←dK]at e
  rw[←hi]
  clear fA hle hi oM dK yt
  cases hw:v.eF with
  |nil=>
   rw[hw]at oN
   simp only[vO]at oN
   (have ax:=d1;have z2:=hw;refine lY ?_;refine lY ?_;refine lY ?_;refine lY ?_;clear ax z2)
   (have ax:=d1;have z2:=hw;refine zO ?_;clear ax z2)
   refine ay.kG (anns:=[.str s1]) ?_
   (have ax:=hw;refine sY ?_;clear ax)
   refine D.ig (ji) ?_
   refine dM ?_
   subst oN
   refine D.F ⟨[1],[0]⟩ (e) ?_
   refine ap ?_
   refine ay.lU (i+1) (by omega) ⟨rfl,rfl,rfl,rfl,by simp only[aT5]; rfl,trivial⟩ (by simp only[ky]; exact⟨rfl,trivial⟩) (by simp only[ky]; exact⟨rfl,trivial⟩) rfl (by simp only[jp,dE,eP,eQ,jg,I.dC,bB.bP,k7,qb,dZ,eb,of_flat,go_sem]<;>rfl) (by show x.os.length-(i+1)<x.os.length-i; omega)
  |cons w ws=>
   rw[hw]at oN g2 K7
   simp only[vO]at oN
   have Yi:ws=[]:=by
    rw[hw]at g3
    simp only[aT3]at g3
    exact List.length_eq_zero_iff.1 (by omega)
   subst Yi
   have Yh:iC w=true:=by simpa using g2
   simp only[au.cf]at K7
   have LC:=congrArg bl3 oN
   simp only[aT2]at LC
   have Du:=(sM 1000000).1 w (by omega) Yh (by omega)
   generalize dx w=gU at oN LC Du
   rcases w with ⟨iY,jc,ja,jd,jb,iZ⟩
   simp(disch:=omega)only[go_sem,simprocAttr]at Du
   (have ax:=d1;have z2:=hw;refine lY ?_;refine lY ?_;refine lY ?_;refine lY ?_;clear ax z2)
   (have ax:=d1;have z2:=hw;refine zO ?_;clear ax z2)
   refine ay.dr ?_
   (have ax:=hw;refine sY ?_;clear ax)
   refine D.P (Du) ?_
   refine D.ij ?_
   refine dM ?_
   (have ax:=hw;refine Cc ?_;clear ax)
   refine ay.kG (anns:=[.str s1]) ?_
   (have ax:=hw;refine sY ?_;clear ax)
   refine D.ig (ji) ?_
   refine dM ?_
   subst oN
   refine D.F ⟨[1],[0]⟩ (e) ?_
   refine ap ?_
   refine ay.lU (i+1) (by omega) ⟨rfl,rfl,rfl,rfl,by simp only[aT5]; rfl,trivial⟩ (by simp only[ky]; exact⟨rfl,trivial⟩) (by simp only[ky]; exact⟨rfl,trivial⟩) rfl (by simp only[jp,dE,eP,eQ,jg,I.dC,bB.bP,k7,qb,dZ,eb,of_flat,go_sem]<;>rfl) (by show x.os.length-(i+1)<x.os.length-i; omega)
 |none=>
 have ck:=List.getElem?_eq_none_iff.1 ad
 have ch:i=x.os.length:=by omega
 subst ch
 have d1: ¬(x.os.length:Int)<((x.os.map cC.row).length:Int):=by rw[aT1]; omega
 rw[aX9]
 have hi:(pf++(x.os.map nK).flatten).length+E.length≤900000000:=by rw[aT2]; omega
 rw[uO]
 generalize pf++(x.os.map nK).flatten=Y at hi ⊢
 have qh:=oq 0 (by decide) (.inr rfl) Y [[125]] (by simp) (by rw[←dp]; omega)
 rw[←dp]at qh
 have dP:Y++E≠[]:=by rw[dp]; simp [fE]
 (have ax:=d1;refine bI ?_;clear ax)
 refine D.F ⟨[1],[0]⟩ (qh) ?_
 refine ap ?_
 refine D.F ⟨[1],[0]⟩ (t129 (T:=304) (A:= .ptr 0 0) (cs:=[.int .i64 0]) trivial (Y++E) dP) ?_
 refine ap ?_
 exact D.rx
end
end Go.aX.T.N
namespace Go.aX
open Go Go.aX.T.N
theorem zh: ∀s:bT,(kZ s).length≤2*s.length
 |[]=>aT4 _
 |c::s=>by
  have:=zh s
  simp only[kZ,aT2,aT3]
  split<;>simp<;>omega
theorem N2 (s:bT):(zg s).length≤2*s.length+2:=by
 have:=zh s
 simp only[zg,aT2,aT3,aU1]
 omega
theorem ve {n:Int}(aW: -1000000000≤n) (h1:n≤1000000000):(Lib.itoa n).length≤21:=Lib.itoa_length_le n (by omega) (by omega)
theorem sT {s:bT}(h:gC s=true):s.length≤16:=by
 cases s with
 |nil=>simp
 |cons c s=>
  simp only[gC,yE,aT0,decide_eq_true_eq]at h
  exact h.1.1
theorem EU (x:au) (s:bT) (k:Int):(lq x s k).length≤s.length+2:=by
 unfold lq
 split
 ·simp
 ·omega
theorem ag6 {s:bT}(h:jM s≠0):s.length≤2:=by
 by_cases J:s.length≤2
 ·exact J
 ·exfalso
  apply h
  unfold jM
  repeat rw[if_neg (by intro e; subst e; simp at J)]
theorem zp: ∀(N:Nat) (x:au),x.cJ≤N→iC x=true→(dx x).length≤90*x.cJ
 |0,x,h,_=>by cases x; simp only[au.cJ]at h; omega
 |N+1,⟨k,o,m,t,n,l⟩,dl,bm=>by
  simp only[au.cJ]at dl ⊢
  simp only[iC,aT0]at bm
  obtain⟨a8,hD⟩:=bm
  have pz:=a8
  simp only[dx,FK]
  unfold Dz
  rcases Li a8 with ⟨rfl,aW,h1,J⟩|⟨rfl,aW,h1⟩|⟨rfl,aW⟩|⟨rfl,aW⟩|⟨rfl,aW⟩|⟨rfl,aW⟩
  ·have:=ve (n:=n) (by omega) (by omega)
   simp only[if_true]
   omega
  ·have:=N2 t
   simp only[show ¬(2:Int)=1 by decide,if_false,if_true]
   omega
  ·have:m.length≤16:=by
    simp [gA]at pz
    exact sT pz.1
   simp only[show ¬(3:Int)=1 by decide,show ¬(3:Int)=2 by decide,if_false,if_true]
   omega
  ·match l,aW with
   |[x],_=>
   simp only[nC,aW0]at hD
   simp only[au.cf]at dl ⊢
   have:=zp N x (by omega) hD
   simp only[show ¬(4:Int)=1 by decide,show ¬(4:Int)=2 by decide,show ¬(4:Int)=3 by decide,if_false,if_true,aU5,L7,aT2,aT3,aU1]
   omega
  ·match l,aW with
   |[x],_=>
   simp only[nC,aW0]at hD
   simp only[au.cf]at dl ⊢
   have h1:=zp N x (by omega) hD
   have J:=EU x (dx x) 7
   have aA:o.length=1:=by
    simp [gA]at pz
    rcases pz.1 with rfl|rfl<;>rfl
   simp only[show ¬(5:Int)=1 by decide,show ¬(5:Int)=2 by decide,show ¬(5:Int)=3 by decide,show ¬(5:Int)=4 by decide,if_false,if_true,aU5,QZ,aT2]
   omega
  ·match l,aW with
   |[x,y],_=>
   simp only[nC,aW0,aT0]at hD
   simp only[au.cf]at dl ⊢
   have h1:=zp N x (by omega) hD.1
   have tA:=zp N y (by omega) hD.2
   have J:=EU x (dx x) (jM o)
   have KT:=EU y (dx y) (jM o+1)
   have aA:o.length≤2:=by
    simp [gA]at pz
    exact ag6 pz.1
   simp only[show ¬(6:Int)=1 by decide,show ¬(6:Int)=2 by decide,show ¬(6:Int)=3 by decide,show ¬(6:Int)=4 by decide,show ¬(6:Int)=5 by decide,if_false,aU5,G6,aT2,aT3,aU1]
   omega
theorem sB (d:Nat) (ps:List bT):(fE d ps).length=d+ps.flatten.length+1:=by simp only[fE,aT2,aX8,aT3,aU1]
theorem FJ {x:au}(h:iC x=true):(dx x).length≤90*x.cJ:=zp _ x (aT4 _) h
theorem NM: ∀(N:Nat),(∀(x:ao) (d:Nat) (bw:bT),x.cJ≤N→ku x=true→d+nw x≤20→bw.length≤10→(ao.jL d bw x).length≤250*x.cJ)∧(∀(l:List ao) (d:Nat),ao.cf l≤N→lg l=true→d+jZ l≤20→(ao.fG d l).length≤250*ao.cf l)
 |0=>⟨fun x d bw h=>by cases x; simp only[ao.cJ]at h; omega,fun l d h bm bw=>by
  cases l with
  |nil=>simp [ao.fG]
  |cons x l=>cases x; simp only[ao.cf,ao.cJ]at h; omega⟩
 |N+1=>by
  obtain⟨i1,i2⟩:=NM N
  have key: ∀(x:ao) (d:Nat) (bw:bT),x.cJ≤N+1→ku x=true→d+nw x≤20→bw.length≤10→(ao.jL d bw x).length≤250*x.cJ:=by
   rintro⟨k,m,x,t,a,b⟩ d bw dl bm tE aM7
   simp only[ao.cJ]at dl ⊢
   simp only[ku,aT0]at bm
   obtain⟨a8,tG,tF,oa⟩:=bm
   simp only[nw]at tE
   have U:=FJ tG
   have Lh:1≤nv x:=by cases x; simp only[nv]; omega
   rcases D1 a8 with ⟨rfl,rfl,J,aA⟩|⟨rfl,rfl,rfl⟩|⟨rfl,rfl,h1,J,aA⟩
   ·have hm:m.length≤16:=by
     simp [fk]at a8
     exact sT a8.1
    simp only[ao.jL,if_true,sB,aU3,aW2,aT2,aT3,aU1]
    omega
   ·have aL:=i2 a (d+1) (by omega) tF (by omega)
    simp only[ao.jL,show ¬(2:Int)=1 by decide,show ¬(2:Int)=3 by decide,if_false,sB,aU3,aW2,aT2,aT3,aU1]
    have hb:(if wW b=true then ao.x8 d b else (if b.isEmpty=true then[] else fE d [[125,32,101,108,115,101,32,123]]++ao.fG (d+1) b)++fE d [[125]]).length≤250*ao.cf b+60:=by
     cases e9:wW b with
     |true=>
      match b,e9,oa,dl,tE with
      |[y],e9,oa,dl,tE=>
      simp only[lg,aW0]at oa
      simp only[ao.cf]at dl ⊢
      simp only[jZ]at tE
      simp only[if_true,ao.x8]
      have:=i1 y d [125,32,101,108,115,101,32,105,102,32] (by omega) oa (by omega) (by decide)
      omega
     |false=>
      simp only[aU6,if_false]
      cases Lj:b.isEmpty with
      |true=>
       simp only[if_true,aV1,sB,aU3,aW2,aT2,aT3,aU1]
       omega
      |false=>
       have fN:=i2 b (d+1) (by omega) oa (by omega)
       simp only[aU6,if_false,sB,aU3,aW2,aT2,aT3,aU1]
       omega
    omega
   ·have aL:=i2 a (d+1) (by omega) tF (by omega)
    have ae:=ve (n:=t) (by omega) (by omega)
    simp only[ao.jL,show ¬(3:Int)=1 by decide,if_false,if_true,sB,aU3,aW2,aT2,aT3,aU1]
    omega
  have Zq: ∀(l:List ao) (d:Nat),ao.cf l≤N+1→lg l=true→d+jZ l≤20→(ao.fG d l).length≤250*ao.cf l:=by
   intro l
   induction l with
   |nil=>intro d _ _ _; simp [ao.fG]
   |cons x l b8=>
    intro d dl bm tE
    simp only[ao.cf]at dl ⊢
    simp only[lg,aT0]at bm
    simp only[jZ]at tE
    have h1:=key x d [105,102,32] (by omega) bm.1 (by omega) (by decide)
    have J:=b8 d (by omega) bm.2 (by omega)
    simp only[ao.fG,aT2]
    omega
  exact⟨key,Zq⟩
theorem AM {α:Type}(f:α→bT) (B:Nat): ∀l:List α,(∀x∈l,(f x).length≤B)→((l.map f).flatten).length≤B*l.length
 |[],_=>by simp
 |x::l,h=>by
  have h1:=h x (by simp)
  have J:=AM f B l fun y bg=>h y (aY7 _ bg)
  simp only[aU5,aU3,aT2,aT3,Nat.mul_add]
  omega
theorem LX (sep:bT) (B:Nat) (l:List bT) (h: ∀x∈l,x.length≤B):(Lib.join l sep).length≤(B+sep.length)*l.length:=by
 cases l with
 |nil=>simp [Lib.join_nil]
 |cons x r=>
  rw[Lib.join_length]
  have: ∀l:List bT,(∀x∈l,x.length≤B)→Lib.lens l≤B*l.length:=by
   intro l
   induction l with
   |nil=>intro _; simp [Lib.lens]
   |cons y l b8=>
    intro h
    have h1:=h y (by simp)
    have J:=b8 fun z aD=>h z (aY7 _ aD)
    simp only[Lib.lens,aT3,Nat.mul_add,aU5,List.sum_cons]at J ⊢
    omega
  have h1:=this (x::r) h
  have J:sep.length*r.length≤sep.length*(x::r).length:=be9 _ (by simp)
  rw[Nat.add_mul]
  omega
theorem Vo {l:List ao}{k:Nat}(h:l.all (fun x=>decide (nw x≤k))=true):jZ l≤k:=by
 induction l with
 |nil=>simp [jZ]
 |cons x l b8=>
  simp only[aV0,aT0,decide_eq_true_eq]at h
  simp only[jZ]
  have:=b8 h.2
  omega
theorem NF {s:bT}(h:qC s=true):s.length≤50:=by
 simp only[qC,aT0,decide_eq_true_eq]at h
 exact h.1
theorem WT {h:bK}(bm:pv h=true) (aL:ao.cf h.body≤10000):(mK h).length≤3000000:=by
 obtain⟨g1,g2⟩:=KI bm
 simp only[pv,aT0]at bm
 obtain⟨br,bA,_,cy,_,eR⟩:=bm
 have h1:=NF br
 have J:=sT bA
 have aA:=LX [44,32] 16 h.ps fun x U=>sT (List.all_eq_true.1 cy x U)
 have uN:(16+([44,32]:bT).length)*h.ps.length≤18*4:=be9 18 g2
 have bz:=(NM 10000).2 h.body 2 aL g1 (by have:=Vo eR; omega)
 simp only[mK,sB,aU3,aW2,aT2,aT3,aU1]at*
 omega
theorem ab3 {o:cC}(bm:pw o=true) (aL:au.cf o.args≤10000∧au.cf o.eF≤10000):(nK o).length≤5000000:=by
 obtain⟨g1,g2,g3⟩:=KJ bm
 simp only[pw,aT0,decide_eq_true_eq]at bm
 obtain⟨br,bA,cy,_⟩:=bm
 have h1:=NF br
 have J:=sT bA
 have aA:=LX [44,32] 900000 (o.args.map dx) fun x U=>by
  obtain⟨y,bg,rfl⟩:=List.mem_map.1 U
  have:=FJ (List.all_eq_true.1 g1 y bg)
  have:=au.tN bg
  omega
 have uN:(900000+([44,32]:bT).length)*(o.args.map dx).length≤900002*4:=be9 900002 (by rw[aT1]; exact cy)
 have bz:(vO o.eF).length≤900010:=by
  cases hw:o.eF with
  |nil=>simp [vO]
  |cons w ws=>
   rw[hw]at g2 aL
   simp only[aV0,aT0]at g2
   simp only[au.cf]at aL
   have:=FJ g2.1
   simp only[vO,aT2,aT3,aU1]
   omega
 simp only[nK,sB,aU3,aW2,aT2,aT3,aU1]at*
 omega
theorem aG6 {v:bQ}(bm:qn v=true):(ng v).length≤1000:=by
 obtain⟨g1,g2,g3,g4,g5,g6⟩:=KK bm
 have h1:=ve g1 g2
 have J:=ve g3 g4
 have aA:v.name.length≤16:=by
  simp only[qn,aT0]at bm
  exact sT bm.1
 have bz:(wT v.ei v.n v.s).length≤100:=by
  unfold wT
  split
  ·have:=N2 v.s; omega
  ·have:=ve (g5 ‹_›).1 (g5 ‹_›).2; omega
 have bZ:(if v.gj=2 then ([116,101,120,116,32]:bT) else[105,110,116,32]).length≤5:=by split<;>simp
 simp only[ng,sB,aU3,aW2,aT2,aT3,aU1]at*
 omega
def zc (x:c9):Bool:=gC x.name&&(gC x.role&&(gC x.gh&&(decide (x.vars.length≤12)&&(decide (x.an.length≤40)&&decide (x.os.length≤40)))))
def uw (x:c9):Bool:=x.vars.all qn&&(x.an.all pv&&x.os.all pw)
def sr (x:c9):Bool:=zc x&&(uw x&&decide ((s9 x).length≤8000))
structure pV (x:c9):Prop where
 aL: ∀h∈x.an,ao.cf h.body≤10000
 hp: ∀h∈x.an,h.ps.length≤1000000
 sH: ∀o∈x.os,au.cf o.args≤10000∧au.cf o.eF≤10000
 mi:x.vars.length≤1000000
 mh:x.an.length≤1000000
 no:x.os.length≤1000000
theorem aw5 {x:c9}(hb:pV x) (h1:zc x=true) (J:uw x=true):GH x:=by
 simp only[zc,aT0,decide_eq_true_eq]at h1
 simp only[uw,aT0]at J
 obtain⟨br,bA,cy,eR,gT,sA⟩:=h1
 obtain⟨g1,g2,g3⟩:=J
 refine⟨g1,g2,g3,fun h hm=>by have:=hb.aL h hm; omega,fun o hm=>by have:=hb.sH o hm; omega,hb.mi,hb.mh,hb.no,?_⟩
 have aj:=sT br
 have aq:=sT bA
 have bD:=sT cy
 have da:=AM ng 1000 x.vars fun v ad=>aG6 (List.all_eq_true.1 g1 v ad)
 have fh:=AM mK 3000000 x.an fun v ad=>WT (List.all_eq_true.1 g2 v ad) (hb.aL v ad)
 have l6:=AM nK 5000000 x.os fun v ad=>ab3 (List.all_eq_true.1 g3 v ad) (hb.sH v ad)
 simp only[s9,sB,aU3,aW2,aT2,aT3,aU1]
 omega
end Go.aX
namespace Go.aX.T.N
open Go Go.aX Go.Proofs Go.RowKit
set_option maxRecDepth 100000
attribute [local irreducible] Go.aX.ay Go.aX.ai Go.aX.aY
section
attribute [local go_sem] au.di au.cQ au.er ao.di ao.cQ ao.er ca dB gz ht eb of_flat bQ.row dZ k7
theorem NV (x:c9) (hb:pV x):Pure aS9 40 [x.eU] (.bool (sr x)):=by
 have AC:=oT x.name
 have VI:=oT x.role
 have VH:=oT x.gh
 have XS:=hb.mi
 have XP:=hb.mh
 have XR:=hb.no
 have VB:=ak5 Zd qn x.vars (by omega) fun v _=>ak6 v
 have VC:=ak7 Ze pv x.an (by omega) fun v ad=>ak8 v (by have:=hb.aL v ad; omega) (by have:=hb.hp v ad; omega)
 have VD:=ak9 Zf pw x.os (by omega) fun v ad=>al0 v (by have:=hb.sH v ad; omega)
 have AB:zc x=true→uw x=true→Pure aS9 116 [x.eU] (.str (s9 x)):=fun h1 J=>al1 x (aw5 hb h1 J)
 rw[nO]at AB ⊢
 have je:((x.vars.map bQ.row).length:Int)=(x.vars.length:Int):=by rw[aT1]
 have xB:((x.an.map bK.row).length:Int)=(x.an.length:Int):=by rw[aT1]
 have Ro:((x.os.map cC.row).length:Int)=(x.os.length:Int):=by rw[aT1]
 simp only[sr,zc,uw]at AB ⊢
 generalize gC x.name=Ac at*
 generalize gC x.role=R1 at*
 generalize gC x.gh=R0 at*
 generalize x.vars.all qn=R2 at*
 generalize x.an.all pv=Cs at*
 generalize x.os.all pw=aT at*
 generalize s9 x=C at*
 generalize x.vars.length=mi at*
 generalize x.an.length=mh at*
 generalize x.os.length=no at*
 refine dt bk Tryz.func40 T5 (by simp only[b9,I.flat,dZ,eb,of_flat,aT7]) rfl ?_
 unfold J4 PL
 simp(disch:=omega)only[go_sem,simprocAttr]
 refine ap ?_
 refine D.P (AC) ?_
 cases Ac
 ·refine ap ?_
  exact D.rx
 refine ap ?_
 refine D.P (VI) ?_
 cases R1
 ·refine ap ?_
  exact D.rx
 refine ap ?_
 refine D.P (VH) ?_
 cases R0
 ·refine ap ?_
  exact D.rx
 by_cases h1:mi≤12
 rotate_left
 ·have d1:(12:Int)<(mi:Int):=by omega
  (have ax:=je;have z2:=d1;refine fX ?_;clear ax z2)
  refine D.r ?_
  refine⟨_,rfl,.aQ ?_ rfl,trivial,trivial⟩
  simp [I.aQ,h1]
 have d1: ¬(12:Int)<(mi:Int):=by omega
 by_cases J:mh≤40
 rotate_left
 ·have d2:(40:Int)<(mh:Int):=by omega
  (have ax:=je;have z2:=d1;have z3:=And.intro xB d2;refine fY ?_;clear ax z2 z3)
  refine D.r ?_
  refine⟨_,rfl,.aQ ?_ rfl,trivial,trivial⟩
  simp [I.aQ,J]
 have d2: ¬(40:Int)<(mh:Int):=by omega
 by_cases aA:no≤40
 rotate_left
 ·have d3:(40:Int)<(no:Int):=by omega
  (have ax:=je;have z2:=d1;have z3:=And.intro xB (And.intro d2 (And.intro Ro d3));refine fY ?_;clear ax z2 z3)
  refine D.r ?_
  refine⟨_,rfl,.aQ ?_ rfl,trivial,trivial⟩
  simp [I.aQ,aA]
 have d3: ¬(40:Int)<(no:Int):=by omega
 simp only[decide_eq_true h1,decide_eq_true J,decide_eq_true aA,aU7,aW0]at AB ⊢
 (have ax:=je;have z2:=d1;have z3:=And.intro xB (And.intro d2 (And.intro Ro d3));refine fY ?_;clear ax z2 z3)
 refine D.P (VB) ?_
 cases R2
 ·refine ap ?_
  exact D.rx
 refine ap ?_
 refine D.P (VC) ?_
 cases Cs
 ·refine ap ?_
  exact D.rx
 refine ap ?_
 refine D.P (VD) ?_
 cases aT
 ·refine ap ?_
  exact D.rx
 refine ap ?_
 refine D.P (AB (by first|trivial|rfl) (by first|trivial|rfl)) ?_
 refine ap ?_
 refine D.r ?_
 refine⟨_,rfl,.aQ ?_ rfl,trivial,trivial⟩
 simp only[I.aQ,I.bool.injEq,aU7]
 exact decide_eq_decide.2 (by omega)
end
section
attribute [local go_sem] au.di ao.di au.cQ ao.cQ
theorem Bz {R:Nat}(ac:R≤140737488355328): ∀(N:Nat) (l:List au),au.cf l≤N→l.length*88≤140737488355328→au.ml R l→Pure aS9 119 [.ak 6 (l.map au.row)] (.int .i64 (au.h8 l (l.length:Int)))
 |N,l,dl,dK,hk=>by
  refine dt bk Tryz.func119 Sz (by simp only[b9,I.flat,au.cQ,aT7]) rfl ?_
  unfold IG Oe
  simp(disch:=omega)only[go_sem,simprocAttr]
  (repeat' first|(apply ai.s rfl;(·simp(disch:=omega)only[go_sem,simprocAttr,aT1]<;>with_reducible rfl))|(apply ay.s true true;(·simp(disch:=omega)only[go_sem,simprocAttr,aT1]<;>with_reducible rfl))|apply ai.nil|(refine ay.dr ?_)|(apply ai.fi;(·simp(disch:=omega)only[go_sem,simprocAttr,aT1]<;>with_reducible rfl))|(apply ai.fj;(·rfl);(·simp(disch:=omega)only[go_sem,simprocAttr,aT1]<;>with_reducible rfl))|(apply ai.gs;(·simp(disch:=omega)only[go_sem,simprocAttr,aT1]<;>with_reducible rfl))|((first|apply ai.fl|apply ai.fm|apply ai.fo);(·simp(disch:=omega)only[go_sem,simprocAttr,aT1]<;>with_reducible rfl);(·simp(disch:=omega)only[go_sem,simprocAttr,aT1]<;>with_reducible rfl);(·assumption);(·omega))|intro h)
  refine ay.dq (X:=Nat×Int) (0,(l.length:Int)) (fun x=>[(0,.ak 6 (l.map au.row)),(3,.int .i64 x.2),(4,.int .i64 (x.1:Int))]) (fun _=>[]) (fun _=>[]) (fun x=>x.1≤l.length∧au.h8 (l.drop x.1) x.2=au.h8 l (l.length:Int)) (fun x=>l.length-x.1) ⟨aT8 _,rfl⟩ ⟨rfl,rfl,rfl,trivial⟩ trivial trivial ?_
  rintro⟨i,z⟩ ⟨ae,aD⟩
  try simp only at ae aD ⊢
  cases ad:l[i]? with
  |some v=>
   have cL:=(List.getElem?_eq_some_iff.1 ad).1
   have hm:=au.lQ ad
   have mc:=au.vu hk ad
   obtain⟨k,o,m,t,n,a⟩:=v
   have d1:(i:Int)<((l.map au.row).length:Int):=by rw[aT1]; omega
   match N,dl with
   |0,dl=>simp only[au.cJ]at hm; omega
   |N+1,dl=>
   simp only[au.cJ]at hm
   (have ax:=d1;refine bI ?_;clear ax)
   refine D.P (Bz ac N a (by omega) (aX0 mc.2.2.2.2.2.1 ac) mc.2.2.2.2.2.2) ?_
   refine ap ?_
   refine ay.fH (i+1,_) ⟨by omega,?_⟩ ⟨rfl,rfl,rfl,trivial⟩ trivial trivial rfl rfl (by show l.length-(i+1)<l.length-i; omega)
   rw[fe ad]at aD
   simp only[au.h8,au.am]at aD
   exact aD
  |none=>
   have ck:=List.getElem?_eq_none_iff.1 ad
   have e:i=l.length:=by omega
   subst e
   have d1: ¬(l.length:Int)<((l.map au.row).length:Int):=by rw[aT1]; omega
   rw[aY2]at aD
   simp only[au.h8]at aD
   subst aD
   (have ax:=d1;refine bI ?_;clear ax)
   exact D.rx
theorem E9 {R:Nat}(ac:R≤140737488355328): ∀(N:Nat) (l:List ao),ao.cf l≤N→l.length*168≤R→ao.ml R l→Pure aS9 118 [.ak 11 (l.map ao.row)] (.int .i64 (ao.h8 l (l.length:Int)))
 |N,l,dl,dK,hk=>by
  refine dt bk Tryz.func118 Sy (by simp only[b9,I.flat,ao.cQ,aT7]) rfl ?_
  unfold IF Od
  simp(disch:=omega)only[go_sem,simprocAttr]
  (repeat' first|(apply ai.s rfl;(·simp(disch:=omega)only[go_sem,simprocAttr,aT1]<;>with_reducible rfl))|(apply ay.s true true;(·simp(disch:=omega)only[go_sem,simprocAttr,aT1]<;>with_reducible rfl))|apply ai.nil|(refine ay.dr ?_)|(apply ai.fi;(·simp(disch:=omega)only[go_sem,simprocAttr,aT1]<;>with_reducible rfl))|(apply ai.fj;(·rfl);(·simp(disch:=omega)only[go_sem,simprocAttr,aT1]<;>with_reducible rfl))|(apply ai.gs;(·simp(disch:=omega)only[go_sem,simprocAttr,aT1]<;>with_reducible rfl))|((first|apply ai.fl|apply ai.fm|apply ai.fo);(·simp(disch:=omega)only[go_sem,simprocAttr,aT1]<;>with_reducible rfl);(·simp(disch:=omega)only[go_sem,simprocAttr,aT1]<;>with_reducible rfl);(·assumption);(·omega))|intro h)
  refine ay.dq (X:=Nat×Int) (0,(l.length:Int)) (fun x=>[(0,.ak 11 (l.map ao.row)),(3,.int .i64 x.2),(4,.int .i64 (x.1:Int))]) (fun _=>[]) (fun _=>[]) (fun x=>x.1≤l.length∧ao.h8 (l.drop x.1) x.2=ao.h8 l (l.length:Int)) (fun x=>l.length-x.1) ⟨aT8 _,rfl⟩ ⟨rfl,rfl,rfl,trivial⟩ trivial trivial ?_
  rintro⟨i,z⟩ ⟨ae,aD⟩
  try simp only at ae aD ⊢
  cases ad:l[i]? with
  |some v=>
   have cL:=(List.getElem?_eq_some_iff.1 ad).1
   have hm:=ao.lQ ad
   have mc:=ao.vu hk ad
   obtain⟨k,m,x,t,a,b⟩:=v
   have aj:Pure aS9 119 [.ak 6 [x.row]] (.int .i64 (IntKind.i64.wrap (1+x.am))):=Bz ac x.cJ [x] (by simp [au.cf]) (by show 1*88≤ _; decide) ⟨mc.2.2.1,trivial⟩
   obtain⟨bA,fq,m2,t2,rH,fp⟩:=x
   have d1:(i:Int)<((l.map ao.row).length:Int):=by rw[aT1]; omega
   match N,dl with
   |0,dl=>simp only[ao.cJ]at hm; omega
   |N+1,dl=>
   simp only[ao.cJ]at hm
   simp(disch:=omega)only[go_sem,simprocAttr]at aj
   have aq:=E9 ac N a (by omega) mc.2.2.2.2.1 mc.2.2.2.2.2.2.1
   have bD:=E9 ac N b (by omega) mc.2.2.2.2.2.1 mc.2.2.2.2.2.2.2
   (have ax:=d1;refine vT ?_;clear ax)
   refine ay.block ?_
   refine ay.kG (anns:=[.int .i64 (IntKind.i64.wrap (1+(au.mk bA fq m2 t2 rH fp).am)),.int .i64 (ao.h8 a (a.length:Int)),.int .i64 (ao.h8 b (b.length:Int))]) ?_
   refine dM ?_
   refine D.ig aj ?_
   refine dM ?_
   refine D.ig aq ?_
   refine dM ?_
   refine D.ig bD ?_
   refine ap ?_
   refine ay.fH (i+1,_) ⟨by omega,?_⟩ ⟨rfl,rfl,rfl,trivial⟩ trivial trivial rfl rfl (by show l.length-(i+1)<l.length-i; omega)
   rw[fe ad]at aD
   simp only[ao.h8,ao.am]at aD
   exact aD
  |none=>
   have ck:=List.getElem?_eq_none_iff.1 ad
   have e:i=l.length:=by omega
   subst e
   have d1: ¬(l.length:Int)<((l.map ao.row).length:Int):=by rw[aT1]; omega
   rw[aY2]at aD
   simp only[ao.h8]at aD
   subst aD
   (have ax:=d1;refine bI ?_;clear ax)
   exact D.rx
theorem BA {R:Nat}(ac:R≤140737488355328): ∀(N:Nat) (l:List au),au.cf l≤N→l.length*88≤140737488355328→au.ml R l→Pure aS9 65 [.ak 6 (l.map au.row)] (.ak 6 (l.map au.row))
 |N,l,dl,dK,hk=>by
  refine dt bk Tryz.func65 Ub (by simp only[b9,I.flat,au.cQ,aT7]) (by simp only[b9,I.flat,au.cQ,aT7]) ?_
  unfold J9 PP
  simp(disch:=omega)only[go_sem,simprocAttr]
  refine ay.seq ?_
  refine ay.dr ?_
  refine dM ?_
  refine ay.seq ?_
  refine ay.dr ?_
  refine dM ?_
  refine ay.uJ 3 6 80 rfl (by decide) ?_
  simp(disch:=omega)only[go_sem,simprocAttr]
  refine ap ?_
  refine ay.dq (X:=Nat) 0 (fun i=>[(0,.ak 6 (l.map au.row)),(3,.own 0 6 ((l.take i).map au.row)),(4,.int .i64 (i:Int))]) (fun _=>[]) (fun i=>[(0,.bP 80 6 ((l.take i).map au.row).length)]) (fun i=>i≤l.length) (fun i=>l.length-i) (aT8 _) ⟨rfl,rfl,rfl,trivial⟩ trivial ⟨rfl,trivial⟩ ?_
  intro i ae
  try simp only at ae ⊢
  cases ad:l[i]? with
  |some v=>
   have cL:=(List.getElem?_eq_some_iff.1 ad).1
   have hm:=au.lQ ad
   have mc:=au.vu hk ad
   have fA:=zu au.row ad
   have hlen:(l.take i).length=i:=by simp; omega
   obtain⟨k,o,m,t,n,a⟩:=v
   simp only[au.di]at fA
   have d1:(i:Int)<((l.map au.row).length:Int):=by rw[aT1]; omega
   match N,dl with
   |0,dl=>simp only[au.cJ]at hm; omega
   |N+1,dl=>
   simp only[au.cJ]at hm
   have aj:=BA ac N a (by omega) (aX0 mc.2.2.2.2.2.1 ac) mc.2.2.2.2.2.2
   (have ax:=d1;refine vT ?_;clear ax)
   refine ay.block ?_
   refine ay.seq ?_
   refine ay.dr ?_
   refine dM ?_
   refine ay.kG (anns:=[.ak 6 (a.map au.row)]) ?_
   refine dM ?_
   refine D.ig aj ?_
   refine dM ?_
   refine D.jz ?_
   refine ap ?_
   refine ay.lU (i+1) (by omega) ⟨rfl,by simp only[fA]; rfl,rfl,trivial⟩ trivial ⟨by simp only[fA,aT2]; rfl,trivial⟩ rfl (by simp only[jp,dE,eP,eQ,jg,I.dC,bB.bP,go_sem]<;>rfl) (by show l.length-(i+1)<l.length-i; omega)
  |none=>
   have ck:=List.getElem?_eq_none_iff.1 ad
   have e:i=l.length:=by omega
   subst e
   have d1: ¬(l.length:Int)<((l.map au.row).length:Int):=by rw[aT1]; omega
   simp only[aX9]
   (have ax:=d1;refine bI ?_;clear ax)
   refine D.r ?_
   exact⟨_,rfl,.aQ rfl (by simp only[I.flat,au.cQ]),trivial,trivial⟩
theorem Fa {R:Nat}(ac:R≤140737488355328): ∀(N:Nat) (l:List ao),ao.cf l≤N→l.length*168≤140737488355328→ao.ml R l→Pure aS9 64 [.ak 11 (l.map ao.row)] (.ak 11 (l.map ao.row))
 |N,l,dl,dK,hk=>by
  refine dt bk Tryz.func64 Ua (by simp only[b9,I.flat,ao.cQ,aT7]) (by simp only[b9,I.flat,ao.cQ,aT7]) ?_
  unfold J8 PO
  simp(disch:=omega)only[go_sem,simprocAttr]
  refine ay.seq ?_
  refine ay.dr ?_
  refine dM ?_
  refine ay.seq ?_
  refine ay.dr ?_
  refine dM ?_
  refine ay.uJ 3 11 82 rfl (by decide) ?_
  simp(disch:=omega)only[go_sem,simprocAttr]
  refine ap ?_
  refine ay.dq (X:=Nat) 0 (fun i=>[(0,.ak 11 (l.map ao.row)),(3,.own 0 11 ((l.take i).map ao.row)),(4,.int .i64 (i:Int))]) (fun _=>[]) (fun i=>[(0,.bP 82 11 ((l.take i).map ao.row).length)]) (fun i=>i≤l.length) (fun i=>l.length-i) (aT8 _) ⟨rfl,rfl,rfl,trivial⟩ trivial ⟨rfl,trivial⟩ ?_
  intro i ae
  try simp only at ae ⊢
  cases ad:l[i]? with
  |some v=>
   have cL:=(List.getElem?_eq_some_iff.1 ad).1
   have hm:=ao.lQ ad
   have mc:=ao.vu hk ad
   have fA:=zu ao.row ad
   have hlen:(l.take i).length=i:=by simp; omega
   obtain⟨k,m,x,t,a,b⟩:=v
   have ch:Pure aS9 65 [.ak 6 [x.row]] (.ak 6 [x.row]):=BA ac x.cJ [x] (by simp [au.cf]) (by show 1*88≤ _; decide) ⟨mc.2.2.1,trivial⟩
   obtain⟨bA,fq,m2,t2,rH,fp⟩:=x
   simp only[ao.di,au.di,aU4,aV1]at fA
   simp(disch:=omega)only[go_sem,simprocAttr]at ch
   have d1:(i:Int)<((l.map ao.row).length:Int):=by rw[aT1]; omega
   match N,dl with
   |0,dl=>simp only[ao.cJ]at hm; omega
   |N+1,dl=>
   simp only[ao.cJ]at hm
   have aj:=Fa ac N a (by omega) (aX0 mc.2.2.2.2.1 ac) mc.2.2.2.2.2.2.1
   have aq:=Fa ac N b (by omega) (aX0 mc.2.2.2.2.2.1 ac) mc.2.2.2.2.2.2.2
   (have ax:=d1;refine vT ?_;clear ax)
   refine ay.block ?_
   refine ay.seq ?_
   refine ay.dr ?_
   refine dM ?_
   refine ay.kG (anns:=[.ak 6 [[.int .i64 bA,.str fq,.str m2,.str t2,.int .i64 rH,.ak 6 (fp.map au.row)]],.ak 11 (a.map ao.row),.ak 11 (b.map ao.row)]) ?_
   refine dM ?_
   refine D.ig ch ?_
   refine dM ?_
   refine D.ig aj ?_
   refine dM ?_
   refine D.ig aq ?_
   refine dM ?_
   refine D.jz ?_
   refine ap ?_
   refine ay.lU (i+1) (by omega) ⟨rfl,by simp only[fA]; rfl,rfl,trivial⟩ trivial ⟨by simp only[fA,aT2]; rfl,trivial⟩ rfl (by simp only[jp,dE,eP,eQ,jg,I.dC,bB.bP,go_sem]<;>rfl) (by show l.length-(i+1)<l.length-i; omega)
  |none=>
   have ck:=List.getElem?_eq_none_iff.1 ad
   have e:i=l.length:=by omega
   subst e
   have d1: ¬(l.length:Int)<((l.map ao.row).length:Int):=by rw[aT1]; omega
   simp only[aX9]
   (have ax:=d1;refine bI ?_;clear ax)
   refine D.r ?_
   exact⟨_,rfl,.aQ rfl (by simp only[I.flat,ao.cQ]),trivial,trivial⟩
end
section
attribute [local go_sem] au.di ao.di au.cQ ao.cQ ca dB gz ht eb of_flat
attribute [local go_sem] bQ.row dZ k7 hQ
set_option maxHeartbeats 1000000 in
theorem aj5 {R:Nat}(ac:R≤140737488355328) (x:c9) (U:x.ok R):Pure aS9 44 [x.eU] (.bool (pt x)):=by
 have fp:=L8 ac (by decide) U.mh
 have pD:=L8 ac (by decide) U.no
 replace fp:x.an.length≤9223372036854775807:=by unfold maxLen at fp; omega
 replace pD:x.os.length≤9223372036854775807:=by unfold maxLen at pD; omega
 rw[nO]
 refine dt bk Tryz.func44 T7 (by simp only[b9,I.flat,dZ,eb,of_flat,aT7]) rfl ?_
 unfold J6 PM
 simp(disch:=omega)only[go_sem,simprocAttr]
 refine ap ?_
 refine ay.dq (X:=Nat×Int) (0,0) (fun p=>[(1,.ptr 0 0),(3,.int .i64 p.2),(4,.int .i64 (p.1:Int))]) (fun _=>[(0,26,x.cells)]) (fun _=>[]) (fun p=>p.1≤x.an.length∧ql (x.an.drop p.1) p.2=ql x.an 0) (fun p=>x.an.length-p.1) ⟨aT8 _,rfl⟩ ⟨rfl,rfl,rfl,trivial⟩ ⟨rfl,trivial⟩ trivial ?_
 rintro⟨i,z⟩ ⟨ae,aD⟩
 try simp only at ae aD ⊢
 cases ad:x.an[i]? with
 |some v=>
  have cL:=(List.getElem?_eq_some_iff.1 ad).1
  have im:=U.an v (aT6 ad)
  have d1:(i:Int)<((x.an.map bK.row).length:Int):=by rw[aT1]; omega
  have aj:=E9 ac (ao.cf v.body) v.body (aT4 _) im.2.2.2.2.1 im.2.2.2.2.2
  rw[fe ad]at aD
  simp only[ql]at aD
  have rC:((v.ps.map ca).length:Int)=(v.ps.length:Int):=by rw[aT1]
  (repeat' first|(apply ai.s rfl;(·simp(disch:=omega)only[go_sem,simprocAttr,d1,rC]<;>with_reducible rfl))|(apply ay.s true true;(·simp(disch:=omega)only[go_sem,simprocAttr,d1,rC]<;>with_reducible rfl))|apply ai.nil|(refine ay.dr ?_)|(apply ai.fi;(·simp(disch:=omega)only[go_sem,simprocAttr,d1,rC]<;>with_reducible rfl))|(apply ai.fj;(·rfl);(·simp(disch:=omega)only[go_sem,simprocAttr,d1,rC]<;>with_reducible rfl))|(apply ai.gs;(·simp(disch:=omega)only[go_sem,simprocAttr,d1,rC]<;>with_reducible rfl))|((first|apply ai.fl|apply ai.fm|apply ai.fo);(·simp(disch:=omega)only[go_sem,simprocAttr,d1,rC]<;>with_reducible rfl);(·simp(disch:=omega)only[go_sem,simprocAttr,d1,rC]<;>with_reducible rfl);(·assumption);(·omega))|intro h|(apply ay.cond;(·simp(disch:=omega)only[go_sem,simprocAttr,d1,rC]<;>with_reducible rfl)))
  ·simp only[decide_eq_true_eq]at h
   rw[if_pos (by omega)]at aD
   refine D.r ?_
   refine⟨_,rfl,.aQ ?_ rfl,trivial,trivial⟩
   simp only[pt,←aD,I.aQ]
  ·simp only[decide_eq_false_iff_not]at h
   rw[if_neg (by omega)]at aD
   refine D.P (aj) ?_
   refine ap ?_
   refine ay.fH (i+1,_) ⟨by omega,aD⟩ ⟨rfl,rfl,rfl,trivial⟩ ⟨rfl,trivial⟩ trivial rfl rfl (by show x.an.length-(i+1)<x.an.length-i; omega)
 |none=>
 have ck:=List.getElem?_eq_none_iff.1 ad
 have ch:i=x.an.length:=by omega
 subst ch
 have d1: ¬(x.an.length:Int)<((x.an.map bK.row).length:Int):=by rw[aT1]; omega
 rw[aY2]at aD
 simp only[ql]at aD
 have K1:pt x=(decide (rp x.os z≤500)&&(decide (x.vars.length≤60)&&(decide (x.an.length≤60)&&decide (x.os.length≤60)))):=by simp only[pt,←aD]
 rw[K1]
 clear ae ad ck aD K1
 (have ax:=d1;refine bI ?_;clear ax)
 refine ay.dq (X:=Nat×Int) (0,z) (fun p=>[(1,.ptr 0 0),(3,.int .i64 p.2),(5,.int .i64 (p.1:Int))]) (fun _=>[(0,26,x.cells)]) (fun _=>[]) (fun p=>p.1≤x.os.length∧rp (x.os.drop p.1) p.2=rp x.os z) (fun p=>x.os.length-p.1) ⟨aT8 _,rfl⟩ ⟨rfl,rfl,rfl,trivial⟩ ⟨rfl,trivial⟩ trivial ?_
 rintro⟨i,y⟩ ⟨ae,aD⟩
 try simp only at ae aD ⊢
 cases ad:x.os[i]? with
 |some v=>
  have cL:=(List.getElem?_eq_some_iff.1 ad).1
  have im:=U.os v (aT6 ad)
  have d1:(i:Int)<((x.os.map cC.row).length:Int):=by rw[aT1]; omega
  have aj:=Bz ac (au.cf v.args) v.args (aT4 _) (aX0 im.2.2.1 ac) im.2.2.2.1
  have aq:=Bz ac (au.cf v.eF) v.eF (aT4 _) (aX0 im.2.2.2.2.1 ac) im.2.2.2.2.2
  rw[fe ad]at aD
  simp only[rp]at aD
  (have ax:=d1;refine vT ?_;clear ax)
  refine ay.block ?_
  refine ay.kG (anns:=[.int .i64 (au.h8 v.args (v.args.length:Int)),.int .i64 (au.h8 v.eF (v.eF.length:Int))]) ?_
  refine dM ?_
  refine D.ig aj ?_
  refine dM ?_
  refine D.ig aq ?_
  refine ap ?_
  refine ay.fH (i+1,_) ⟨by omega,aD⟩ ⟨rfl,rfl,rfl,trivial⟩ ⟨rfl,trivial⟩ trivial rfl rfl (by show x.os.length-(i+1)<x.os.length-i; omega)
 |none=>
 have ck:=List.getElem?_eq_none_iff.1 ad
 have ch:i=x.os.length:=by omega
 subst ch
 have d1: ¬(x.os.length:Int)<((x.os.map cC.row).length:Int):=by rw[aT1]; omega
 rw[aY2]at aD
 simp only[rp]at aD
 subst aD
 (repeat' first|(apply ai.s rfl;(·simp(disch:=omega)only[go_sem,simprocAttr,d1]<;>with_reducible rfl))|(apply ay.s true true;(·simp(disch:=omega)only[go_sem,simprocAttr,d1]<;>with_reducible rfl))|apply ai.nil|(refine ay.dr ?_)|(apply ai.fi;(·simp(disch:=omega)only[go_sem,simprocAttr,d1]<;>with_reducible rfl))|(apply ai.fj;(·rfl);(·simp(disch:=omega)only[go_sem,simprocAttr,d1]<;>with_reducible rfl))|(apply ai.gs;(·simp(disch:=omega)only[go_sem,simprocAttr,d1]<;>with_reducible rfl))|((first|apply ai.fl|apply ai.fm|apply ai.fo);(·simp(disch:=omega)only[go_sem,simprocAttr,d1]<;>with_reducible rfl);(·simp(disch:=omega)only[go_sem,simprocAttr,d1]<;>with_reducible rfl);(·assumption);(·omega))|intro h)
 all_goals
  refine D.R ?_
  refine⟨_,rfl,.aQ ?_ rfl,trivial,trivial⟩
  have T9: ∀n:Nat,((n:Int)≤60)=(n≤60):=fun n=>propext (by omega)
  simp only[aT1,T9]at*
  simp_all [I.aQ]<;>omega
end
section
attribute [local go_sem] au.di ao.di au.cQ ao.cQ ca dB gz ht eb of_flat
attribute [local go_sem] bQ.row dZ k7 hQ
abbrev zJ:List I:=[.str [],.str [],.str [],.bn,.bn,.bn]
set_option maxHeartbeats 4000000 in
theorem NA {R:Nat}(ac:R≤140737488355328) (x:c9) (U:x.ok R):aY aS9 21 [x.eU] .new (fun o c=>o= .ret (.agg [.str x.name,.str x.role,.str x.gh,.own 0 7 (x.vars.map bQ.row),.own 1 4 (x.an.map bK.row),.own 2 4 (x.os.map cC.row)])∧c.H.tok 1=some (.bP 84 4 (x.an.map bK.row).length)):=by
 have aR:=U.mi
 have fp:=U.mh
 have pD:=U.no
 rw[nO]
 refine aY.intro bk Tryz.func21 S6 ?_
 unfold uE ON
 simp(disch:=omega)only[go_sem,simprocAttr]
 refine ay.seq ?_
 refine ay.dr ?_
 refine dM ?_
 refine ay.seq ?_
 refine ay.dr ?_
 refine dM ?_
 refine ay.tx 2 3 7 146 rfl rfl (by decide) ?_
 simp(disch:=omega)only[go_sem,simprocAttr]
 refine ay.tx 2 4 4 84 rfl rfl (by decide) ?_
 simp(disch:=omega)only[go_sem,simprocAttr]
 refine ay.tx 2 5 4 148 rfl rfl (by decide) ?_
 simp(disch:=omega)only[go_sem,simprocAttr]
 refine ap ?_
 refine ay.dq (X:=Nat) 0 (fun i=>[(1,.ptr 0 0),(2,.ptr 1 0),(3,.ptr 2 0),(4,.int .i64 (i:Int))]) (fun i=>[(0,26,x.cells),(1,48,zJ),(2,48,[.str x.name,.str x.role,.str x.gh,.own 0 7 ((x.vars.take i).map bQ.row),.own 1 4 (([]:List bK).map bK.row),.own 2 4 (([]:List cC).map cC.row)])]) (fun i=>[(0,.bP 146 7 ((x.vars.take i).map bQ.row).length),(1,.bP 84 4 (([]:List bK).map bK.row).length),(2,.bP 148 4 (([]:List cC).map cC.row).length)]) (fun i=>i≤x.vars.length) (fun i=>x.vars.length-i) (aT8 _) ⟨rfl,rfl,rfl,rfl,trivial⟩ ⟨rfl,rfl,rfl,trivial⟩ ⟨rfl,rfl,rfl,trivial⟩ ?_
 intro i ae
 try simp only at ae ⊢
 cases ad:x.vars[i]? with
 |some v=>
  have cL:=(List.getElem?_eq_some_iff.1 ad).1
  have hlen:(x.vars.take i).length=i:=by simp; omega
  have fA:=zu bQ.row ad
  have d1:(i:Int)<((x.vars.map bQ.row).length:Int):=by rw[aT1]; omega
  (have ax:=d1;refine bI ?_;clear ax)
  refine D.jz ?_
  refine ap ?_
  refine ay.fH (i+1) (by omega) ⟨rfl,rfl,rfl,rfl,trivial⟩ (by refine⟨rfl,rfl,?_,trivial⟩; simp only[fA]; rfl) (by refine⟨?_,rfl,rfl,trivial⟩; simp only[fA,aT2]; rfl) rfl rfl (by show x.vars.length-(i+1)<x.vars.length-i; omega)
 |none=>
 have ck:=List.getElem?_eq_none_iff.1 ad
 have e:i=x.vars.length:=by omega
 subst e
 have d1: ¬(x.vars.length:Int)<((x.vars.map bQ.row).length:Int):=by rw[aT1]; omega
 simp only[aX9]
 clear ae ad ck
 (have ax:=d1;refine bI ?_;clear ax)
 refine ay.dq (X:=Nat) 0 (fun i=>[(1,.ptr 0 0),(2,.ptr 1 0),(3,.ptr 2 0),(5,.int .i64 (i:Int))]) (fun i=>[(0,26,x.cells),(1,48,zJ),(2,48,[.str x.name,.str x.role,.str x.gh,.own 0 7 (x.vars.map bQ.row),.own 1 4 ((x.an.take i).map bK.row),.own 2 4 (([]:List cC).map cC.row)])]) (fun i=>[(0,.bP 146 7 (x.vars.map bQ.row).length),(1,.bP 84 4 ((x.an.take i).map bK.row).length),(2,.bP 148 4 (([]:List cC).map cC.row).length)]) (fun i=>i≤x.an.length) (fun i=>x.an.length-i) (aT8 _) ⟨rfl,rfl,rfl,rfl,trivial⟩ ⟨rfl,rfl,rfl,trivial⟩ ⟨rfl,rfl,rfl,trivial⟩ ?_
 intro i ae
 try simp only at ae ⊢
 cases ad:x.an[i]? with
 |some v=>
  have cL:=(List.getElem?_eq_some_iff.1 ad).1
  have hlen:(x.an.take i).length=i:=by simp; omega
  have fA:=zu bK.row ad
  have d1:(i:Int)<((x.an.map bK.row).length:Int):=by rw[aT1]; omega
  have im:=U.an v (aT6 ad)
  have aj:=Fa ac (ao.cf v.body) v.body (aT4 _) (aX0 im.2.2.2.2.1 ac) im.2.2.2.2.2
  simp only[gz]at fA
  (have ax:=d1;refine vT ?_;clear ax)
  refine ay.block ?_
  refine ay.seq ?_
  refine ay.dr ?_
  refine dM ?_
  refine ay.kG (anns:=[.ak 11 (v.body.map ao.row)]) ?_
  refine dM ?_
  refine D.ig aj ?_
  refine dM ?_
  refine D.jz ?_
  refine ap ?_
  refine ay.lU (i+1) (by omega) ⟨rfl,rfl,rfl,rfl,trivial⟩ (by refine⟨rfl,rfl,?_,trivial⟩; simp only[fA]; rfl) (by refine⟨rfl,?_,rfl,trivial⟩; simp only[fA,aT2]; rfl) rfl (by simp only[k7,zJ,jp,dE,eP,eQ,jg,I.dC,bB.bP,dZ,eb,of_flat,go_sem]<;>rfl) (by show x.an.length-(i+1)<x.an.length-i; omega)
 |none=>
 have ck:=List.getElem?_eq_none_iff.1 ad
 have e:i=x.an.length:=by omega
 subst e
 have d1: ¬(x.an.length:Int)<((x.an.map bK.row).length:Int):=by rw[aT1]; omega
 simp only[aX9]
 clear ae ad ck
 (have ax:=d1;refine bI ?_;clear ax)
 refine ay.dq (X:=Nat) 0 (fun i=>[(1,.ptr 0 0),(2,.ptr 1 0),(3,.ptr 2 0),(7,.int .i64 (i:Int))]) (fun i=>[(0,26,x.cells),(1,48,zJ),(2,48,[.str x.name,.str x.role,.str x.gh,.own 0 7 (x.vars.map bQ.row),.own 1 4 (x.an.map bK.row),.own 2 4 ((x.os.take i).map cC.row)])]) (fun i=>[(0,.bP 146 7 (x.vars.map bQ.row).length),(1,.bP 84 4 (x.an.map bK.row).length),(2,.bP 148 4 ((x.os.take i).map cC.row).length)]) (fun i=>i≤x.os.length) (fun i=>x.os.length-i) (aT8 _) ⟨rfl,rfl,rfl,rfl,trivial⟩ ⟨rfl,rfl,rfl,trivial⟩ ⟨rfl,rfl,rfl,trivial⟩ ?_
 intro i ae
 try simp only at ae ⊢
 cases ad:x.os[i]? with
 |some v=>
  have cL:=(List.getElem?_eq_some_iff.1 ad).1
  have hlen:(x.os.take i).length=i:=by simp; omega
  have fA:=zu cC.row ad
  have d1:(i:Int)<((x.os.map cC.row).length:Int):=by rw[aT1]; omega
  have im:=U.os v (aT6 ad)
  have aj:=BA ac (au.cf v.args) v.args (aT4 _) (aX0 im.2.2.1 ac) im.2.2.2.1
  have aq:=BA ac (au.cf v.eF) v.eF (aT4 _) (aX0 im.2.2.2.2.1 ac) im.2.2.2.2.2
  simp only[ht]at fA
  (have ax:=d1;refine vT ?_;clear ax)
  refine ay.block ?_
  refine ay.seq ?_
  refine ay.dr ?_
  refine dM ?_
  refine ay.kG (anns:=[.ak 6 (v.args.map au.row),.ak 6 (v.eF.map au.row)]) ?_
  refine dM ?_
  refine D.ig aj ?_
  refine dM ?_
  refine D.ig aq ?_
  refine dM ?_
  refine D.jz ?_
  refine ap ?_
  refine ay.lU (i+1) (by omega) ⟨rfl,rfl,rfl,rfl,trivial⟩ (by refine⟨rfl,rfl,?_,trivial⟩; simp only[fA]; rfl) (by refine⟨rfl,rfl,?_,trivial⟩; simp only[fA,aT2]; rfl) rfl (by simp only[k7,zJ,jp,dE,eP,eQ,jg,I.dC,bB.bP,dZ,eb,of_flat,go_sem]<;>rfl) (by show x.os.length-(i+1)<x.os.length-i; omega)
 |none=>
 have ck:=List.getElem?_eq_none_iff.1 ad
 have e:i=x.os.length:=by omega
 subst e
 have d1: ¬(x.os.length:Int)<((x.os.map cC.row).length:Int):=by rw[aT1]; omega
 simp only[aX9]
 clear ae ad ck
 (have ax:=d1;refine bI ?_;clear ax)
 refine D.r ?_
 exact⟨rfl,rfl⟩
theorem ak0 {R:Nat}(ac:R≤140737488355328) (x:c9) (U:x.ok R):Pure aS9 21 [x.eU] x.eU:=by
 have e:=NA ac x U
 rw[nO]at e ⊢
 exact aY.pure e (by simp only[b9,I.flat,dZ,eb,of_flat,aT7]) (by simp only[I.flat,b9,dZ,eb,of_flat,aT7]) fun o c1 ⟨e,_⟩=>⟨_,e,rfl⟩
end
end Go.aX.T.N
namespace Go.aX
open Go Go.aX.T.N
structure Fd where
 name:List UInt8
 kind:Int
 cm:Int
 ae:Int
structure bS where
 name:List UInt8
 fields:List Fd
 first:Int
 eM:List (Int×Int×Int)
 eqs:List (Int×Int)
structure cG where
 fK:Int
 gZ:Int
 l1:Int
 ii:Int
 dst:Int
 again:Bool
structure et where
 state:Int
 FT:Int
 tr:Int
structure cI where
 name:List UInt8
 cD:List (List UInt8)
 decls:List bS
 hX:Int
 start:Int
 fin:Int
 bY:List cG
 hM:List et
def Fd.row (f:Fd):List I:=[.str f.name,.int .i64 f.kind,.int .i64 f.cm,.int .i64 f.ae]
def ep (d:Int×Int×Int):List I:=[.int .i64 d.1,.int .i64 d.2.1,.int .i64 d.2.2]
def eN (d:Int×Int):List I:=[.int .i64 d.1,.int .i64 d.2]
def bS.row (d:bS):List I:=[.str d.name,.ak 4 (d.fields.map Fd.row),.int .i64 d.first,.ak 3 (d.eM.map ep),.ak 2 (d.eqs.map eN)]
def cG.row (e:cG):List I:=[.int .i64 e.fK,.int .i64 e.gZ,.int .i64 e.l1,.int .i64 e.ii,.int .i64 e.dst,.bool e.again]
def et.row (t:et):List I:=[.int .i64 t.state,.int .i64 t.FT,.int .i64 t.tr]
def cI.cells (g:cI):List I:=[.str g.name,.ak 1 (g.cD.map ca),.ak 5 (g.decls.map bS.row),.int .i64 g.hX,.int .i64 g.start,.int .i64 g.fin,.ak 6 (g.bY.map cG.row),.ak 3 (g.hM.map et.row)]
def cI.eU (g:cI):I:= .agg g.cells
def vB:List (List UInt8)→List (List UInt8)→Bool
 | _,[]=>true
 |ahead,x::l=>gC x&&(!ahead.contains x&&vB (ahead++[x]) l)
def wY (g:cI):Bool:=gC g.name&&(decide (1≤g.cD.length)&&(decide (g.cD.length≤6)&&vB [] g.cD))
def wu (g:cI) (e:cG):Bool:=
 decide (0≤e.fK)&&(decide (0≤e.dst)&&(decide (0≤e.gZ)&&(decide (0≤e.l1)&&(decide (0≤e.ii)&&(decide (e.fK<g.hX)&&(decide (e.dst<g.hX)&&(decide (e.gZ<g.cD.length)&&(decide (e.l1<g.cD.length)&&(!decide (e.gZ=e.l1)&&decide (e.ii<g.decls.length))))))))))
def rJ (g:cI):Bool:=
 decide (1≤g.hX)&&(decide (g.hX≤200)&&(decide (0≤g.start)&&(decide (0≤g.fin)&&(decide (g.start<g.hX)&&(decide (g.fin<g.hX)&&(decide (g.bY.length≤400)&&g.bY.all (wu g)))))))
def nN (k cm ae:Int):Bool:=
 if k=1 then decide (-1000≤cm)&&(decide (cm≤ae)&&decide (ae≤1000))
 else if k=2 then decide (0≤cm)&&(decide (cm≤ae)&&decide (ae≤40))
 else false
def Au (n:Nat) (x:Int×Int×Int):Bool:=decide (-1≤min x.1 x.2.1)&&(decide (max x.1 x.2.1<n)&&(decide (-20000≤x.2.2)&&decide (x.2.2≤20000)))
def o4 (all:List Fd) (i:Int):Bool:=decide (0≤i)&&(decide (i<all.length)&&match all[i.toNat]? with|some f=>decide (f.kind=2)|none=>false)
def x9 (all:List Fd) (x:Int×Int):Bool:=o4 all x.1&&o4 all x.2
def uM (all:List Fd) (d:bS):Bool:=
 decide (d.eM.length≤20)&&(decide (d.eqs.length≤20)&&(d.eM.all (Au all.length)&&d.eqs.all (x9 all)))
def nL (f:Nat→cG→Bool):Nat→List cG→Bool
 | _,[]=>true
 |i,e::l=>f i e&&nL f (i+1) l
def sI (i:Nat) (x:cG) (k:Nat) (y:cG):Bool:=
 !((!decide (i=k)&&decide (x.fK=y.fK))&&((decide (x.gZ=y.gZ)&&(decide (x.l1=y.l1)&&decide (x.ii=y.ii)))||(!decide (x.gZ=y.gZ)||x.again)))&&
  !(x.again&&(decide (y.dst=x.fK)&&(!decide (x.gZ=y.gZ)|| !decide (x.ii=y.ii))))
def Br (g:cI) (i:Nat) (x:cG):Bool:= !(decide (x.fK=g.fin)||(x.again&&decide (x.fK=g.start)))&&nL (sI i x) 0 g.bY
def y8 (g:cI):Bool:=nL (Br g) 0 g.bY
def rq:List Fd→List Fd→Bool
 | _,[]=>true
 |ahead,f::l=>gC f.name&&(nN f.kind f.cm f.ae&&(!ahead.any (fun x=>decide (x.name=f.name))&&rq (ahead++[f]) l))
def oy (l:List bS):List Fd:=l.flatMap bS.fields
def qg (all:List Fd):List bS→Int→List bS→Bool
 | _,_,[]=>true
 |ahead,at',d::l=>qC d.name&&(decide (d.fields.length≤4)&&(decide (d.first=at')&&(!ahead.any (fun x=>decide (x.name=d.name))&&(rq [] d.fields&&(uM all d&&qg all (ahead++[d]) (at'+d.fields.length) l)))))
def qS (l:List bS):Bool:=decide (l.length≤40)&&(decide ((oy l).length≤24)&&qg (oy l) [] 0 l)
def uD (l:List bS):Bool:=decide (l.length=0)||qS l
def oC (first:Int):Nat→List Fd→List (Int×Int×Int)
 | _,[]=>[]
 |i,f::l=>(first+i,-1,f.ae)::(-1,first+i,-f.cm)::oC first (i+1) l
def oB:List (Int×Int)→List (Int×Int×Int)
 |[]=>[]
 |e::l=>(e.1,e.2,0)::(e.2,e.1,0)::oB l
def Hd (d:bS):List (Int×Int×Int):=oC d.first 0 d.fields++(d.eM++oB d.eqs)
def zw (g:cI):Int→List et→Bool
 | _,[]=>true
 |last,t::l=>decide (last<t.state)&&(decide (1≤t.FT)&&(decide (t.FT≤1000)&&(decide (0≤t.tr)&&(decide (t.tr<g.bY.length)&&(match g.bY[t.tr.toNat]? with
  |some e=>decide (e.fK=t.state)&& !e.again
  |none=>false)&&zw g t.state l))))
def zv (g:cI):Bool:=zw g (-1) g.hM
def po (back:Bool) (e:cG):Int×Int:=if back=true then (e.dst,e.fK) else (e.fK,e.dst)
def rO (h:Int) (back:Bool):List cG→List Int×List Int→List Int×List Int
 |[],s=>s
 |e::es,s=>if (po back e).1=h∧s.1.getD (po back e).2.toNat 0<0 then rO h back es (s.1.set (po back e).2.toNat (s.1.getD (po back e).1.toNat 0+1),s.2++[(po back e).2]) else rO h back es s
def vE (es:List cG) (back:Bool):Nat→List Int→List Int→List Int
 |0,out,_=>out
 | _+1,out,[]=>out
 |n+1,out,h::todo=>vE es back n (rO h back es (out,h::todo)).1 (rO h back es (out,h::todo)).2.tail
def qI (g:cI) (fK:Int) (back:Bool):List Int:=vE g.bY back (2*g.hX.toNat+2) ((aU2 g.hX.toNat (-1)).set fK.toNat 0) [fK]
def kJ (g:cI):Bool:=wY g&&(rJ g&&(uD g.decls&&(y8 g&&(zv g&&(!(qI g g.start false).contains (-1)&& !(qI g g.fin true).contains (-1))))))
def oS (l:List Int):Nat:=l.countP (fun x=>decide (x<0))
end Go.aX
namespace Go.aX
open Go Go.aX.T.N
inductive c7 (α:Type) where
 |ok (a:α)
 |err (n:List UInt8) (e:Int)
def c7.bind {α β:Type}:c7 α→(α→c7 β)→c7 β
 | .ok a,f=>f a
 | .err n e,_=> .err n e
def e5 (b:Bool) (n:List UInt8) (e:Int):c7 Unit:=if b=true then .ok () else .err n e
theorem c7.bind_assoc {α β aK1:Type}(r:c7 α) (f:α→c7 β) (g:β→c7 aK1):(r.bind f).bind g=r.bind fun a=>(f a).bind g:=by cases r<;>rfl
structure dT where
 x:c9
 g:cI
 role:Int
 ps:Option (List (List UInt8×Int))
def dT.look (aS:dT) (n:List UInt8):Option Int:=match aS.ps with
 |none=>none
 |some m=>kD n m
def zF:bQ:=⟨[],0,0,0,0,0,[]⟩
def varOf (l:List bQ) (n:List UInt8):Option bQ:=l.find? fun v=>decide (v.name=n)
def rI (aS:dT) (n:List UInt8):c7 Int:=match aS.look n with
 |some k=> .ok k
 |none=>match varOf aS.x.vars n with
  |some v=> .ok v.gj
  |none=> .err n 10
def ux (bx:List Int) (k:Int):Bool:=bx.all fun x=>decide (x=k)
def rF (aS:dT) (k:Int) (o m:List UInt8) (bx:List Int):c7 Int:=
 if k=2 then .ok 2
 else if k=3 then rI aS m
 else if k=4 then (e5 (ux bx 2) [108,101,110] 11).bind fun _=> .ok 1
 else if k=5 then (e5 (ux bx 1) o 11).bind fun _=> .ok 1
 else if k=6 then (if o≠[43]∧o≠[61,61]∧o≠[33,61] then (e5 (ux bx 1) o 11).bind fun _=> .ok 1
  else (e5 (ux bx (bx.headD 0)) o 11).bind fun _=> .ok (if o=[43] then bx.headD 0 else 1))
 else .ok 1
mutual
def kT (aS:dT):au→c7 Int
 | .mk k o m t n l=>(mf aS l).bind fun bx=>rF aS k o m bx
def mf (aS:dT):List au→c7 (List Int)
 |[]=> .ok []
 |x::l=>(kT aS x).bind fun a=>(mf aS l).bind fun bU=> .ok (a::bU)
end
def s5 (aS:dT) (n:List UInt8) (x:au):c7 Unit:=
 (e5 ((aS.look n).isSome||(varOf aS.x.vars n).isSome) n 10).bind fun _=>(e5 (!(aS.look n).isSome) n 11).bind fun _=>(kT aS x).bind fun k=>e5 (decide (k=((varOf aS.x.vars n).getD zF).gj)) n 11
mutual
def sQ (aS:dT):ao→c7 Unit
 | .mk k m x t a b=>if k=1 then s5 aS m x
  else (if k=2 then (kT aS x).bind fun q=>e5 (decide (q=1)) [105,102] 11 else if k=3 then (kT aS x).bind fun q=>e5 (decide (q=1)) [119,104,105,108,101] 11 else .ok ()).bind fun _=>(kH aS a).bind fun _=>kH aS b
def kH (aS:dT):List ao→c7 Unit
 |[]=> .ok ()
 |x::l=>(sQ aS x).bind fun _=>kH aS l
end
def zD (v:bQ):Bool:=if v.ei=1 then decide (-1000≤v.n)&&(decide (v.n≤1000)&&decide (v.s=[])) else if v.ei=2 then decide (v.n=0)&&(decide (v.s.length≤40)&&v.s.all ev) else false
def yY (v:bQ):Int:=if v.ei=1 then v.n else if v.ei=2 then (v.s.length:Int) else 0
def wv (v:bQ):Bool:=nN v.gj v.cm v.ae&&(zD v&&(decide (v.gj=v.ei)&&(decide (v.cm≤yY v)&&decide (yY v≤v.ae))))
def o8:List bQ→List bQ→c7 Unit
 | _,[]=> .ok ()
 |ahead,v::l=>(e5 (!ahead.any fun w=>decide (w.name=v.name)) v.name 9).bind fun _=>(e5 (nN v.gj v.cm v.ae&&wv v) v.name 11).bind fun _=>o8 (ahead++[v]) l
def fF (l:List (List UInt8)) (s:List UInt8):Int:=og l s l.length 0
def mF (g:cI) (n:List UInt8):Int:=cW (fun d=> !decide (d.name=n)) g.decls 0
def sD (aS:dT) (path peer:List UInt8) (vc:Bool):c7 bS:=
 (e5 (decide (0≤mF aS.g path)) path 10).bind fun _=>(e5 (decide (0≤fF aS.g.cD peer)) peer 12).bind fun _=>
  (e5 (aS.g.bY.any fun e=>decide (e.gZ=(if vc=true then fF aS.g.cD peer else aS.role))&&(decide (e.l1=(if vc=true then aS.role else fF aS.g.cD peer))&&decide (e.ii=mF aS.g path))) path 8).bind fun _=>
   match aS.g.decls[(mF aS.g path).toNat]? with
   |some d=> .ok d
   |none=> .err [] 0
def mU (vars:List bQ):List (List UInt8×Int)→List (List UInt8)→List Fd→c7 (List (List UInt8×Int))
 |acc,n::ps,f::b6=>(e5 (!(varOf vars n).isSome&& !(kD n acc).isSome) n 9).bind fun _=>mU vars (acc++[(n,f.kind)]) ps b6
 |acc,_,_=> .ok acc
def ma (aS:dT) (ahead:List bK) (h:bK):c7 Unit:=
 (sD aS h.dw h.peer true).bind fun d=>(e5 (!ahead.any fun o=>decide (o.dw=h.dw)&&decide (o.peer=h.peer)) h.dw 9).bind fun _=>
  (e5 (decide (h.ps.length=d.fields.length)) h.dw 11).bind fun _=>(mU aS.x.vars [] h.ps d.fields).bind fun m=>kH {aS with ps:=some m} h.body
def nk (aS:dT) (dw:List UInt8):List au→List Fd→c7 Unit
 |x::l,f::b6=>(kT aS x).bind fun k=>(e5 (decide (k=f.kind)) dw 11).bind fun _=>nk aS dw l b6
 | _,_=> .ok ()
def o9 (aS:dT):List au→c7 Unit
 |x::l=>(kT aS x).bind fun k=>(e5 (decide (k=1)) [119,104,101,114,101] 11).bind fun _=>o9 aS l
 |[]=> .ok ()
def pG (aS:dT) (o:cC):c7 Unit:=
 (sD aS o.dw o.peer false).bind fun d=>(e5 (decide (o.args.length=d.fields.length)) o.dw 11).bind fun _=>(nk aS o.dw o.args d.fields).bind fun _=>o9 aS o.eF
def n5 (aS:dT):List bK→List bK→c7 Unit
 | _,[]=> .ok ()
 |ahead,h::l=>(ma aS ahead h).bind fun _=>n5 aS (ahead++[h]) l
def oo (aS:dT):List cC→c7 Unit
 |[]=> .ok ()
 |o::l=>(pG aS o).bind fun _=>oo aS l
def rL (x:c9) (g:cI):c7 Unit:=
 (e5 (decide (x.gh=g.name)) x.gh 10).bind fun _=>(e5 (decide (0≤fF g.cD x.role)) x.role 12).bind fun _=>
  (o8 [] x.vars).bind fun _=>(n5 ⟨x,g,max (fF g.cD x.role) 0,none⟩ [] x.an).bind fun _=>oo ⟨x,g,max (fF g.cD x.role) 0,none⟩ x.os
def iz (x:c9) (g:cI):List UInt8×Int:=
 if (sr x&&kJ g)=true then (match rL x g with
  | .ok _=>([],0)
  | .err n e=>(n,e)) else ([],1)
end Go.aX
namespace Go.aX
open Go Go.aX.T.N
structure gw where
  op:Int
  n:Int
  s:List UInt8
def gw.row (i:gw):List I:=[.int .i64 i.op,.int .i64 i.n,.str i.s]
structure pb where
  vars:List bQ
  ps:List (List UInt8)
  bx:List Int
def Gd (l:List bQ) (n:List UInt8):Int:=cW (fun v=> !decide (v.name=n)) l 0
mutual
def ax5 (dn:pb):au→Bool
  | .mk k o m t n l=>if k=2 then true
    else if k=3 then (if 0≤fF dn.ps m then decide (dn.bx.getD (fF dn.ps m).toNat 0=2) else match dn.vars[(Gd dn.vars m).toNat]? with
      |some v=>decide (v.gj=2)
      |none=>false)
    else if k=6 then decide (o=[43])&&QD dn l
    else false
def QD (dn:pb):List au→Bool
  |[]=>false
  |x:: _=>ax5 dn x
end
def ET (o:List UInt8):Int×Bool×Bool:=
  if o=[45] then (7,false,false)
  else if o=[42] then (8,false,false)
  else if o=[47] then (9,false,false)
  else if o=[37] then (10,false,false)
  else if o=[38,38] then (15,false,false)
  else if o=[124,124] then (16,false,false)
  else if o=[61,61] then (12,false,false)
  else if o=[33,61] then (12,false,true)
  else if o=[60] then (13,false,false)
  else if o=[62,61] then (13,false,true)
  else if o=[62] then (13,true,false)
  else if o=[60,61] then (13,true,true)
  else (6,false,false)
def ins (op n:Int):gw:=⟨op,n,[]⟩
def R8 (o:List UInt8) (ay7:Bool):List (List gw)→List gw
  |a::b:: _=>(if (ET o).2.1=true then b++a else a++b)++(ins (if o=[43]∧ay7=true then 17 else (ET o).1) 0::if (ET o).2.2=true then[ins 14 0] else[])
  | _=>[]
mutual
def kp (dn:pb):au→List gw
  | .mk k o m t n l=>if k=1 then[ins 1 n]
    else if k=2 then[⟨2,0,t⟩]
    else if k=3 then[if 0≤fF dn.ps m then ins 4 (fF dn.ps m) else ins 3 (Gd dn.vars m)]
    else if k=4 then (xY dn l).headD []++[ins 18 0]
    else if k=5 then (xY dn l).headD []++[ins (if o=[45] then 11 else 14) 0]
    else R8 o (QD dn l) (xY dn l)
def xY (dn:pb):List au→List (List gw)
  |[]=>[]
  |x::l=>kp dn x::xY dn l
end
mutual
def HS (dn:pb):Nat→ao→List gw
  |p,.mk k m x t a b=>if k=1 then kp dn x++[ins 5 (Gd dn.vars m)]
   else if k=2 then (match b with
     |[]=>kp dn x++(ins 20 ((p+(kp dn x).length+1+(oE dn (p+(kp dn x).length+1) a).length:Nat):Int)::oE dn (p+(kp dn x).length+1) a)
     | _:: _=>kp dn x++(ins 20 ((p+(kp dn x).length+1+(oE dn (p+(kp dn x).length+1) a).length+1:Nat):Int)::(oE dn (p+(kp dn x).length+1) a++
        (ins 19 ((p+(kp dn x).length+1+(oE dn (p+(kp dn x).length+1) a).length+1+(oE dn (p+(kp dn x).length+1+(oE dn (p+(kp dn x).length+1) a).length+1) b).length:Nat):Int)::oE dn (p+(kp dn x).length+1+(oE dn (p+(kp dn x).length+1) a).length+1) b))))
   else ins 21 t::(kp dn x++(ins 20 ((p+1+(kp dn x).length+1+(oE dn (p+1+(kp dn x).length+1) a).length+1:Nat):Int)::(oE dn (p+1+(kp dn x).length+1) a++[ins 22 ((p+1:Nat):Int),ins 23 0])))
def oE (dn:pb):Nat→List ao→List gw
  | _,[]=>[]
  |p,x::l=>HS dn p x++oE dn (p+(HS dn p x).length) l
end
mutual
def Vm:Nat→ao→Bool
  |d,.mk k m x t a b=>if k=1 then false else if k=2 then x4 d a||x4 d b else decide (d=4)||x4 (d+1) a
def x4:Nat→List ao→Bool
  | _,[]=>false
  |d,x::l=>Vm d x||x4 d l
end
def WV (x:c9) (bx:List Int) (p:Nat) (h:bK):List gw:=oE ⟨x.vars,h.ps,bx⟩ p h.body++[ins 24 0]
def L4 (g:cI) (dw:List UInt8):List Int:=match g.decls[(mF g dw).toNat]? with
  |some d=>d.fields.map Fd.kind
  |none=>[]
def DT (x:c9) (g:cI):Nat→List bK→List (Int×Int×Int)×List gw×Bool
  | _,[]=>([],[],false)
  |p,h::l=>let q:=WV x (L4 g h.dw) p h; let r:=DT x g (p+q.length) l
   ((fF g.cD h.peer,mF g h.dw,(p:Int))::r.1,q++r.2.1,x4 0 h.body||r.2.2)
def aI2 (dn:pb) (p:Nat):List au→Int×List gw
  |[]=>(-1,[])
  |x:: _=>((p:Int),kp dn x++[ins 24 0])
def Nu (x:c9) (g:cI):Nat→List cC→List (Int×Int×Int×Int)×List gw
  | _,[]=>([],[])
  |p,o::l=>let w:=aI2 ⟨x.vars,[],[]⟩ p o.eF; let q:=(xY ⟨x.vars,[],[]⟩ o.args).flatten++[ins 24 0]; let r:=Nu x g (p+w.2.length+q.length) l
   ((fF g.cD o.peer,mF g o.dw,w.1,((p+w.2.length:Nat):Int))::r.1,w.2++q++r.2)
structure aK5 where
  name:List UInt8
  role:Int
  vars:List bQ
  an:List (Int×Int×Int)
  os:List (Int×Int×Int×Int)
  code:List gw
def px (h:Int×Int×Int):List I:=[.int .i64 h.1,.int .i64 h.2.1,.int .i64 h.2.2]
def vq (h:Int×Int×Int×Int):List I:=[.int .i64 h.1,.int .i64 h.2.1,.int .i64 h.2.2.1,.int .i64 h.2.2.2]
def UH (x:c9) (g:cI):List gw:=
  let c:=(DT x g 0 x.an).2.1++(Nu x g (DT x g 0 x.an).2.1.length x.os).2
  if c.length=0 then[ins 24 0] else c
end Go.aX
namespace Go.aX.T.N
open Go Go.aX Go.Proofs Go.RowKit
set_option maxRecDepth 100000
attribute [local irreducible] Go.aX.ay Go.aX.ai Go.aX.aY
section
attribute [local go_sem] bQ.row dZ gz eb ca
def dv (n:Int):List I:=[.int .i64 n]
theorem fS (l:List Int):eD (l.map dv)=true:=lN (fun _=>rfl) l
theorem fz (l:List Fd):eD (l.map Fd.row)=true:=lN (fun _=>rfl) l
theorem fy (l:List (Int×Int×Int)):eD (l.map ep)=true:=lN (fun _=>rfl) l
theorem fR (l:List (Int×Int)):eD (l.map eN)=true:=lN (fun _=>rfl) l
theorem e8 (l:List cG):eD (l.map cG.row)=true:=lN (fun _=>rfl) l
theorem fa (l:List et):eD (l.map et.row)=true:=lN (fun _=>rfl) l
theorem eI (l:List bS):eD (l.map bS.row)=true:=lN (fun d=>by simp only[bS.row,b9,I.flat,fz,fy,fR,aT7]) l
attribute [local go_sem] fS fz fy fR e8 fa eI dv Fd.row ep eN cG.row et.row bS.row
theorem sK {α:Type}(g:α→Bool) (l:List α):decide (0≤cW (fun v=> !g v) l 0)=l.any g:=by
 rw[tT]
 induction l with
 |nil=>rfl
 |cons x l b8=>
  simp only[aV0,List.any_cons,←b8]
  cases g x<;>simp
section
variable {cN:Program}{anns:List I}{l:List bC}{env:Env}{K:Env→aJ→Prop}{Rp:I→aJ→Prop}{f:FuncId}{args:List aH}{x:aH}{a v:I}{d:Nat}{T:TypeId}{cs:List I}
theorem D.vR (aO:cT cN f=true) (hb:dE 1 0 cs=true) (ab:eO ⟨[0],[]⟩ cs=cs) (wJ:a.flat=true) (h:aY cN f [a,.ptr 0 0] (aJ.of 1 0 [(0,T,cs)] []) (c8 v [(0,T,cs)] [])) (hk:ai cN anns l ((d,v)::env) (aJ.of 1 0 [(0,T,cs)] []) K Rp)
  (U:bi env x= .fn f [.ptr 0 0]:=by simp (disch:=omega) only[go_sem,simprocAttr]<;>with_reducible rfl) (aL:args.map (bi env)=[a]:=by simp (disch:=omega) only[go_sem,simprocAttr]<;>with_reducible rfl) (ad:v.flat=true:=by rfl):ai cN anns (⟨some d,none,.fx x args⟩::l) env (aJ.of 1 0 [(0,T,cs)] []) K Rp:=by
 have yj:eP 1 0 [(0,T,cs)]=true:=by simp only[eP,hb,aW0]; rfl
 have e:=aY.oH (c:=aJ.of 1 0 [(0,T,cs)] []) ⟨[0],[]⟩ h rfl rfl rfl ⟨by simp only[rv,w4,fT,beq_self_eq_true,cond_true,ab],trivial⟩ trivial (by simp only[dE,sn a wJ,yj,I.dC,eQ,aW0]; rfl) (by simp only[yj,sn v ad,eQ,aW0]) rfl
 rw[so v ad]at e
 have hu:(aJ.of 1 0 [(0,T,cs)] []).jR ⟨[0],[]⟩ [(0,T,cs)] []=aJ.of 1 0 [(0,T,cs)] []:=by
  rw[mj]
  simp only[pK,pL,rv,ab,bf2,bc5,aZ1,be5,beq_self_eq_true,bf5,if_true,oX,pM,mW,oz,oA,cond_true]
 rw[hu,show eO ⟨[0],[]⟩ [a,.ptr 0 0]=[a,.ptr 0 0] by simp only[eO,so a wJ,I.ek,rv]]at e
 exact ai.Ge rfl U aO e (by rw[aL]; rfl) hk
theorem D.vS {size:Nat}{g:FuncId}{rows:List (List I)}(hb:dE 1 0 cs=true) (ab:eO ⟨[0],[]⟩ cs=cs) (wJ:eD rows=true) (h:aY cN f [.ak size rows,.fn g [.ptr 0 0]] (aJ.of 1 0 [(0,T,cs)] []) (c8 v [(0,T,cs)] [])) (hk:ai cN anns l ((d,v)::env) (aJ.of 1 0 [(0,T,cs)] []) K Rp)
  (aL:args.map (bi env)=[.ak size rows,.fn g [.ptr 0 0]]:=by simp (disch:=omega) only[go_sem,simprocAttr]<;>with_reducible rfl) (ad:v.flat=true:=by rfl):ai cN anns (⟨some d,none,.call f args⟩::l) env (aJ.of 1 0 [(0,T,cs)] []) K Rp:=by
 have yj:eP 1 0 [(0,T,cs)]=true:=by simp only[eP,hb,aW0]; rfl
 have e:=aY.oH (c:=aJ.of 1 0 [(0,T,cs)] []) ⟨[0],[]⟩ h rfl rfl rfl ⟨by simp only[rv,w4,fT,beq_self_eq_true,cond_true,ab],trivial⟩ trivial (by simp only[dE,yj,I.dC,wJ,eQ,aW0]; rfl) (by simp only[yj,sn v ad,eQ,aW0]) rfl
 rw[so v ad]at e
 have hu:(aJ.of 1 0 [(0,T,cs)] []).jR ⟨[0],[]⟩ [(0,T,cs)] []=aJ.of 1 0 [(0,T,cs)] []:=by
  rw[mj]
  simp only[pK,pL,rv,ab,bf2,bc5,aZ1,be5,beq_self_eq_true,bf5,if_true,oX,pM,mW,oz,oA,cond_true]
 rw[hu,show eO ⟨[0],[]⟩ [.ak size rows,.fn g [.ptr 0 0]]=[.ak size rows,.fn g [.ptr 0 0]] by simp only[eO,I.ek,rv]]at e
 exact ai.re rfl e aL hk
end
theorem QX {f:FuncId}{T:TypeId}{cs:List I}(aO:cT aS9 f=true) (hb:dE 1 0 cs=true) (ab:eO ⟨[0],[]⟩ cs=cs) (g:bQ→Bool) (l:List bQ) (aE:l.length≤1000000000000) (h: ∀v∈l,aY aS9 f [.agg (bQ.row v),.ptr 0 0] (aJ.of 1 0 [(0,T,cs)] []) (c8 (.bool (g v)) [(0,T,cs)] [])):aY aS9 261 [.ak 7 (l.map bQ.row),.fn f [.ptr 0 0]] (aJ.of 1 0 [(0,T,cs)] []) (c8 (.int .i64 (cW (fun v=> !g v) l 0)) [(0,T,cs)] []):=by
 refine aY.intro bk Tryz.func261 Hr ?_
 unfold Dh Fi
 simp(disch:=omega)only[go_sem,simprocAttr]
 refine ap ?_
 refine ay.dq (X:=Nat) 0 (fun i=>[(0,.ak 7 (l.map bQ.row)),(1,.fn f [.ptr 0 0]),(7,.int .i64 ((l.map bQ.row).length:Int)),(8,.int .i64 (i:Int))]) (fun _=>[(0,T,cs)]) (fun _=>[]) (fun i=>i≤l.length∧cW (fun v=> !g v) (l.drop i) i=cW (fun v=> !g v) l 0) (fun i=>l.length-i) ⟨aT8 _,rfl⟩ ⟨rfl,rfl,rfl,rfl,trivial⟩ ⟨rfl,trivial⟩ trivial ?_
 rintro i ⟨ae,aD⟩
 try simp only at ae aD ⊢
 cases ad:l[i]? with
 |some v=>
  have cL:=(List.getElem?_eq_some_iff.1 ad).1
  rw[fe ad]at aD
  simp only[cW]at aD
  have d1:(i:Int)<((l.map bQ.row).length:Int):=by rw[aT1]; omega
  have e:=h v (aT6 ad)
  generalize g v=b at e aD
  clear h
  (have ax:=d1;refine bI ?_;clear ax)
  refine D.vR aO hb ab (rfl) e ?_
  cases b
  ·refine ap ?_
   refine ay.fH (i+1) ⟨by omega,aD⟩ ⟨rfl,rfl,rfl,by simp only[aT5]; rfl,trivial⟩ ⟨rfl,trivial⟩ trivial rfl rfl (by show l.length-(i+1)<l.length-i; omega)
  ·refine ap ?_
   refine D.r ?_
   exact⟨by rw[←aD]; rfl,⟨rfl,trivial⟩,trivial⟩
 |none=>
  have ck:=List.getElem?_eq_none_iff.1 ad
  have d1: ¬(i:Int)<((l.map bQ.row).length:Int):=by rw[aT1]; omega
  rw[aT9 ck]at aD
  (have ax:=d1;refine bI ?_;clear ax)
  refine D.r ?_
  exact⟨by rw[←aD]; rfl,⟨rfl,trivial⟩,trivial⟩
theorem aD0 {f:FuncId}{T:TypeId}{cs:List I}(aO:cT aS9 f=true) (hb:dE 1 0 cs=true) (ab:eO ⟨[0],[]⟩ cs=cs) (g:bQ→Bool) (l:List bQ) (aE:l.length≤1000000000000) (h: ∀v∈l,aY aS9 f [.agg (bQ.row v),.ptr 0 0] (aJ.of 1 0 [(0,T,cs)] []) (c8 (.bool (g v)) [(0,T,cs)] [])):aY aS9 162 [.ak 7 (l.map bQ.row),.fn f [.ptr 0 0]] (aJ.of 1 0 [(0,T,cs)] []) (c8 (.bool (l.any g)) [(0,T,cs)] []):=by
 have e:=QX aO hb ab g l aE h
 rw[←sK]
 generalize cW (fun v=> !g v) l 0=z at e ⊢
 clear h
 refine aY.intro bk Tryz.func162 Ho ?_
 unfold Dc Fe
 simp(disch:=omega)only[go_sem,simprocAttr]
 refine ap ?_
 refine D.vS hb ab (dZ l) e ?_
 refine ap ?_
 refine D.r ?_
 exact⟨rfl,⟨rfl,trivial⟩,trivial⟩
theorem aD3 {f:FuncId}{T:TypeId}{cs:List I}(aO:cT aS9 f=true) (hb:dE 1 0 cs=true) (ab:eO ⟨[0],[]⟩ cs=cs) (g:bK→Bool) (l:List bK) (aE:l.length≤1000000000000) (h: ∀v∈l,aY aS9 f [.agg (bK.row v),.ptr 0 0] (aJ.of 1 0 [(0,T,cs)] []) (c8 (.bool (g v)) [(0,T,cs)] [])):aY aS9 183 [.ak 4 (l.map bK.row),.fn f [.ptr 0 0]] (aJ.of 1 0 [(0,T,cs)] []) (c8 (.int .i64 (cW (fun v=> !g v) l 0)) [(0,T,cs)] []):=by
 refine aY.intro bk Tryz.func183 CD ?_
 unfold Ax BC
 simp(disch:=omega)only[go_sem,simprocAttr]
 refine ap ?_
 refine ay.dq (X:=Nat) 0 (fun i=>[(0,.ak 4 (l.map bK.row)),(1,.fn f [.ptr 0 0]),(7,.int .i64 ((l.map bK.row).length:Int)),(8,.int .i64 (i:Int))]) (fun _=>[(0,T,cs)]) (fun _=>[]) (fun i=>i≤l.length∧cW (fun v=> !g v) (l.drop i) i=cW (fun v=> !g v) l 0) (fun i=>l.length-i) ⟨aT8 _,rfl⟩ ⟨rfl,rfl,rfl,rfl,trivial⟩ ⟨rfl,trivial⟩ trivial ?_
 rintro i ⟨ae,aD⟩
 try simp only at ae aD ⊢
 cases ad:l[i]? with
 |some v=>
  have cL:=(List.getElem?_eq_some_iff.1 ad).1
  rw[fe ad]at aD
  simp only[cW]at aD
  have d1:(i:Int)<((l.map bK.row).length:Int):=by rw[aT1]; omega
  have e:=h v (aT6 ad)
  generalize g v=b at e aD
  clear h
  (have ax:=d1;refine bI ?_;clear ax)
  refine D.vR aO hb ab (by simp only[I.flat,bK.row,b9,ao.lr,ao.cQ,dB,aT7]) e ?_
  cases b
  ·refine ap ?_
   refine ay.fH (i+1) ⟨by omega,aD⟩ ⟨rfl,rfl,rfl,by simp only[aT5]; rfl,trivial⟩ ⟨rfl,trivial⟩ trivial rfl rfl (by show l.length-(i+1)<l.length-i; omega)
  ·refine ap ?_
   refine D.r ?_
   exact⟨by rw[←aD]; rfl,⟨rfl,trivial⟩,trivial⟩
 |none=>
  have ck:=List.getElem?_eq_none_iff.1 ad
  have d1: ¬(i:Int)<((l.map bK.row).length:Int):=by rw[aT1]; omega
  rw[aT9 ck]at aD
  (have ax:=d1;refine bI ?_;clear ax)
  refine D.r ?_
  exact⟨by rw[←aD]; rfl,⟨rfl,trivial⟩,trivial⟩
theorem aG4 {f:FuncId}{T:TypeId}{cs:List I}(aO:cT aS9 f=true) (hb:dE 1 0 cs=true) (ab:eO ⟨[0],[]⟩ cs=cs) (g:bK→Bool) (l:List bK) (aE:l.length≤1000000000000) (h: ∀v∈l,aY aS9 f [.agg (bK.row v),.ptr 0 0] (aJ.of 1 0 [(0,T,cs)] []) (c8 (.bool (g v)) [(0,T,cs)] [])):aY aS9 96 [.ak 4 (l.map bK.row),.fn f [.ptr 0 0]] (aJ.of 1 0 [(0,T,cs)] []) (c8 (.bool (l.any g)) [(0,T,cs)] []):=by
 have e:=aD3 aO hb ab g l aE h
 rw[←sK]
 generalize cW (fun v=> !g v) l 0=z at e ⊢
 clear h
 refine aY.intro bk Tryz.func96 CI ?_
 unfold tl BI
 simp(disch:=omega)only[go_sem,simprocAttr]
 refine ap ?_
 refine D.vS hb ab (eb l) e ?_
 refine ap ?_
 refine D.r ?_
 exact⟨rfl,⟨rfl,trivial⟩,trivial⟩
theorem QT {f:FuncId}{T:TypeId}{cs:List I}(aO:cT aS9 f=true) (hb:dE 1 0 cs=true) (ab:eO ⟨[0],[]⟩ cs=cs) (g:bS→Bool) (l:List bS) (aE:l.length≤1000000000000) (h: ∀v∈l,aY aS9 f [.agg (bS.row v),.ptr 0 0] (aJ.of 1 0 [(0,T,cs)] []) (c8 (.bool (g v)) [(0,T,cs)] [])):aY aS9 139 [.ak 5 (l.map bS.row),.fn f [.ptr 0 0]] (aJ.of 1 0 [(0,T,cs)] []) (c8 (.int .i64 (cW (fun v=> !g v) l 0)) [(0,T,cs)] []):=by
 refine aY.intro bk Tryz.func139 SC ?_
 unfold IJ Oh
 simp(disch:=omega)only[go_sem,simprocAttr]
 refine ap ?_
 refine ay.dq (X:=Nat) 0 (fun i=>[(0,.ak 5 (l.map bS.row)),(1,.fn f [.ptr 0 0]),(7,.int .i64 ((l.map bS.row).length:Int)),(8,.int .i64 (i:Int))]) (fun _=>[(0,T,cs)]) (fun _=>[]) (fun i=>i≤l.length∧cW (fun v=> !g v) (l.drop i) i=cW (fun v=> !g v) l 0) (fun i=>l.length-i) ⟨aT8 _,rfl⟩ ⟨rfl,rfl,rfl,rfl,trivial⟩ ⟨rfl,trivial⟩ trivial ?_
 rintro i ⟨ae,aD⟩
 try simp only at ae aD ⊢
 cases ad:l[i]? with
 |some v=>
  have cL:=(List.getElem?_eq_some_iff.1 ad).1
  rw[fe ad]at aD
  simp only[cW]at aD
  have d1:(i:Int)<((l.map bS.row).length:Int):=by rw[aT1]; omega
  have e:=h v (aT6 ad)
  generalize g v=b at e aD
  clear h
  (have ax:=d1;refine bI ?_;clear ax)
  refine D.vR aO hb ab (by simp only[I.flat,bS.row,b9,fz,fy,fR,aT7]) e ?_
  cases b
  ·refine ap ?_
   refine ay.fH (i+1) ⟨by omega,aD⟩ ⟨rfl,rfl,rfl,by simp only[aT5]; rfl,trivial⟩ ⟨rfl,trivial⟩ trivial rfl rfl (by show l.length-(i+1)<l.length-i; omega)
  ·refine ap ?_
   refine D.r ?_
   exact⟨by rw[←aD]; rfl,⟨rfl,trivial⟩,trivial⟩
 |none=>
  have ck:=List.getElem?_eq_none_iff.1 ad
  have d1: ¬(i:Int)<((l.map bS.row).length:Int):=by rw[aT1]; omega
  rw[aT9 ck]at aD
  (have ax:=d1;refine bI ?_;clear ax)
  refine D.r ?_
  exact⟨by rw[←aD]; rfl,⟨rfl,trivial⟩,trivial⟩
theorem aF3 {f:FuncId}{T:TypeId}{cs:List I}(aO:cT aS9 f=true) (hb:dE 1 0 cs=true) (ab:eO ⟨[0],[]⟩ cs=cs) (g:bS→Bool) (l:List bS) (aE:l.length≤1000000000000) (h: ∀v∈l,aY aS9 f [.agg (bS.row v),.ptr 0 0] (aJ.of 1 0 [(0,T,cs)] []) (c8 (.bool (g v)) [(0,T,cs)] [])):aY aS9 375 [.ak 5 (l.map bS.row),.fn f [.ptr 0 0]] (aJ.of 1 0 [(0,T,cs)] []) (c8 (.bool (l.any g)) [(0,T,cs)] []):=by
 have e:=QT aO hb ab g l aE h
 rw[←sK]
 generalize cW (fun v=> !g v) l 0=z at e ⊢
 clear h
 refine aY.intro bk Tryz.func375 TW ?_
 unfold JX PE
 simp(disch:=omega)only[go_sem,simprocAttr]
 refine ap ?_
 refine D.vS hb ab (eI l) e ?_
 refine ap ?_
 refine D.r ?_
 exact⟨rfl,⟨rfl,trivial⟩,trivial⟩
theorem aF0 {f:FuncId}{T:TypeId}{cs:List I}(aO:cT aS9 f=true) (hb:dE 1 0 cs=true) (ab:eO ⟨[0],[]⟩ cs=cs) (g:cG→Bool) (l:List cG) (aE:l.length≤1000000000000) (h: ∀v∈l,aY aS9 f [.agg (cG.row v),.ptr 0 0] (aJ.of 1 0 [(0,T,cs)] []) (c8 (.bool (g v)) [(0,T,cs)] [])):aY aS9 342 [.ak 6 (l.map cG.row),.fn f [.ptr 0 0]] (aJ.of 1 0 [(0,T,cs)] []) (c8 (.int .i64 (cW (fun v=> !g v) l 0)) [(0,T,cs)] []):=by
 refine aY.intro bk Tryz.func342 TP ?_
 unfold JR Px
 simp(disch:=omega)only[go_sem,simprocAttr]
 refine ap ?_
 refine ay.dq (X:=Nat) 0 (fun i=>[(0,.ak 6 (l.map cG.row)),(1,.fn f [.ptr 0 0]),(7,.int .i64 ((l.map cG.row).length:Int)),(8,.int .i64 (i:Int))]) (fun _=>[(0,T,cs)]) (fun _=>[]) (fun i=>i≤l.length∧cW (fun v=> !g v) (l.drop i) i=cW (fun v=> !g v) l 0) (fun i=>l.length-i) ⟨aT8 _,rfl⟩ ⟨rfl,rfl,rfl,rfl,trivial⟩ ⟨rfl,trivial⟩ trivial ?_
 rintro i ⟨ae,aD⟩
 try simp only at ae aD ⊢
 cases ad:l[i]? with
 |some v=>
  have cL:=(List.getElem?_eq_some_iff.1 ad).1
  rw[fe ad]at aD
  simp only[cW]at aD
  have d1:(i:Int)<((l.map cG.row).length:Int):=by rw[aT1]; omega
  have e:=h v (aT6 ad)
  generalize g v=b at e aD
  clear h
  (have ax:=d1;refine bI ?_;clear ax)
  refine D.vR aO hb ab (rfl) e ?_
  cases b
  ·refine ap ?_
   refine ay.fH (i+1) ⟨by omega,aD⟩ ⟨rfl,rfl,rfl,by simp only[aT5]; rfl,trivial⟩ ⟨rfl,trivial⟩ trivial rfl rfl (by show l.length-(i+1)<l.length-i; omega)
  ·refine ap ?_
   refine D.r ?_
   exact⟨by rw[←aD]; rfl,⟨rfl,trivial⟩,trivial⟩
 |none=>
  have ck:=List.getElem?_eq_none_iff.1 ad
  have d1: ¬(i:Int)<((l.map cG.row).length:Int):=by rw[aT1]; omega
  rw[aT9 ck]at aD
  (have ax:=d1;refine bI ?_;clear ax)
  refine D.r ?_
  exact⟨by rw[←aD]; rfl,⟨rfl,trivial⟩,trivial⟩
theorem aD9 {f:FuncId}{T:TypeId}{cs:List I}(aO:cT aS9 f=true) (hb:dE 1 0 cs=true) (ab:eO ⟨[0],[]⟩ cs=cs) (g:cG→Bool) (l:List cG) (aE:l.length≤1000000000000) (h: ∀v∈l,aY aS9 f [.agg (cG.row v),.ptr 0 0] (aJ.of 1 0 [(0,T,cs)] []) (c8 (.bool (g v)) [(0,T,cs)] [])):aY aS9 263 [.ak 6 (l.map cG.row),.fn f [.ptr 0 0]] (aJ.of 1 0 [(0,T,cs)] []) (c8 (.bool (l.any g)) [(0,T,cs)] []):=by
 have e:=aF0 aO hb ab g l aE h
 rw[←sK]
 generalize cW (fun v=> !g v) l 0=z at e ⊢
 clear h
 refine aY.intro bk Tryz.func263 To ?_
 unfold Js O5
 simp(disch:=omega)only[go_sem,simprocAttr]
 refine ap ?_
 refine D.vS hb ab (e8 l) e ?_
 refine ap ?_
 refine D.r ?_
 exact⟨rfl,⟨rfl,trivial⟩,trivial⟩
theorem aF9 {f:FuncId}{T:TypeId}{cs:List I}(aO:cT aS9 f=true) (hb:dE 1 0 cs=true) (ab:eO ⟨[0],[]⟩ cs=cs) (g:Fd→Bool) (l:List Fd) (aE:l.length≤1000000000000) (h: ∀v∈l,aY aS9 f [.agg (Fd.row v),.ptr 0 0] (aJ.of 1 0 [(0,T,cs)] []) (c8 (.bool (g v)) [(0,T,cs)] [])):aY aS9 400 [.ak 4 (l.map Fd.row),.fn f [.ptr 0 0]] (aJ.of 1 0 [(0,T,cs)] []) (c8 (.int .i64 (cW (fun v=> !g v) l 0)) [(0,T,cs)] []):=by
 refine aY.intro bk Tryz.func400 T6 ?_
 unfold J5 r400
 simp(disch:=omega)only[go_sem,simprocAttr]
 refine ap ?_
 refine ay.dq (X:=Nat) 0 (fun i=>[(0,.ak 4 (l.map Fd.row)),(1,.fn f [.ptr 0 0]),(7,.int .i64 ((l.map Fd.row).length:Int)),(8,.int .i64 (i:Int))]) (fun _=>[(0,T,cs)]) (fun _=>[]) (fun i=>i≤l.length∧cW (fun v=> !g v) (l.drop i) i=cW (fun v=> !g v) l 0) (fun i=>l.length-i) ⟨aT8 _,rfl⟩ ⟨rfl,rfl,rfl,rfl,trivial⟩ ⟨rfl,trivial⟩ trivial ?_
 rintro i ⟨ae,aD⟩
 try simp only at ae aD ⊢
 cases ad:l[i]? with
 |some v=>
  have cL:=(List.getElem?_eq_some_iff.1 ad).1
  rw[fe ad]at aD
  simp only[cW]at aD
  have d1:(i:Int)<((l.map Fd.row).length:Int):=by rw[aT1]; omega
  have e:=h v (aT6 ad)
  generalize g v=b at e aD
  clear h
  (have ax:=d1;refine bI ?_;clear ax)
  refine D.vR aO hb ab (rfl) e ?_
  cases b
  ·refine ap ?_
   refine ay.fH (i+1) ⟨by omega,aD⟩ ⟨rfl,rfl,rfl,by simp only[aT5]; rfl,trivial⟩ ⟨rfl,trivial⟩ trivial rfl rfl (by show l.length-(i+1)<l.length-i; omega)
  ·refine ap ?_
   refine D.r ?_
   exact⟨by rw[←aD]; rfl,⟨rfl,trivial⟩,trivial⟩
 |none=>
  have ck:=List.getElem?_eq_none_iff.1 ad
  have d1: ¬(i:Int)<((l.map Fd.row).length:Int):=by rw[aT1]; omega
  rw[aT9 ck]at aD
  (have ax:=d1;refine bI ?_;clear ax)
  refine D.r ?_
  exact⟨by rw[←aD]; rfl,⟨rfl,trivial⟩,trivial⟩
theorem aF6 {f:FuncId}{T:TypeId}{cs:List I}(aO:cT aS9 f=true) (hb:dE 1 0 cs=true) (ab:eO ⟨[0],[]⟩ cs=cs) (g:Fd→Bool) (l:List Fd) (aE:l.length≤1000000000000) (h: ∀v∈l,aY aS9 f [.agg (Fd.row v),.ptr 0 0] (aJ.of 1 0 [(0,T,cs)] []) (c8 (.bool (g v)) [(0,T,cs)] [])):aY aS9 378 [.ak 4 (l.map Fd.row),.fn f [.ptr 0 0]] (aJ.of 1 0 [(0,T,cs)] []) (c8 (.bool (l.any g)) [(0,T,cs)] []):=by
 have e:=aF9 aO hb ab g l aE h
 rw[←sK]
 generalize cW (fun v=> !g v) l 0=z at e ⊢
 clear h
 refine aY.intro bk Tryz.func378 TZ ?_
 unfold J0 PH
 simp(disch:=omega)only[go_sem,simprocAttr]
 refine ap ?_
 refine D.vS hb ab (fz l) e ?_
 refine ap ?_
 refine D.r ?_
 exact⟨rfl,⟨rfl,trivial⟩,trivial⟩
theorem aF1 {f:FuncId}{T:TypeId}{cs:List I}(aO:cT aS9 f=true) (hb:dE 1 0 cs=true) (ab:eO ⟨[0],[]⟩ cs=cs) (g:Int→Bool) (l:List Int) (aE:l.length≤1000000000000) (h: ∀v∈l,aY aS9 f [.int .i64 v,.ptr 0 0] (aJ.of 1 0 [(0,T,cs)] []) (c8 (.bool (g v)) [(0,T,cs)] [])):aY aS9 343 [.ak 1 (l.map dv),.fn f [.ptr 0 0]] (aJ.of 1 0 [(0,T,cs)] []) (c8 (.int .i64 (cW (fun v=> !g v) l 0)) [(0,T,cs)] []):=by
 refine aY.intro bk Tryz.func343 TQ ?_
 unfold JS Py
 simp(disch:=omega)only[go_sem,simprocAttr]
 refine ap ?_
 refine ay.dq (X:=Nat) 0 (fun i=>[(0,.ak 1 (l.map dv)),(1,.fn f [.ptr 0 0]),(7,.int .i64 ((l.map dv).length:Int)),(8,.int .i64 (i:Int))]) (fun _=>[(0,T,cs)]) (fun _=>[]) (fun i=>i≤l.length∧cW (fun v=> !g v) (l.drop i) i=cW (fun v=> !g v) l 0) (fun i=>l.length-i) ⟨aT8 _,rfl⟩ ⟨rfl,rfl,rfl,rfl,trivial⟩ ⟨rfl,trivial⟩ trivial ?_
 rintro i ⟨ae,aD⟩
 try simp only at ae aD ⊢
 cases ad:l[i]? with
 |some v=>
  have cL:=(List.getElem?_eq_some_iff.1 ad).1
  rw[fe ad]at aD
  simp only[cW]at aD
  have d1:(i:Int)<((l.map dv).length:Int):=by rw[aT1]; omega
  have e:=h v (aT6 ad)
  generalize g v=b at e aD
  clear h
  (have ax:=d1;refine bI ?_;clear ax)
  refine D.vR aO hb ab (rfl) e ?_
  cases b
  ·refine ap ?_
   refine ay.fH (i+1) ⟨by omega,aD⟩ ⟨rfl,rfl,rfl,by simp only[aT5]; rfl,trivial⟩ ⟨rfl,trivial⟩ trivial rfl rfl (by show l.length-(i+1)<l.length-i; omega)
  ·refine ap ?_
   refine D.r ?_
   exact⟨by rw[←aD]; rfl,⟨rfl,trivial⟩,trivial⟩
 |none=>
  have ck:=List.getElem?_eq_none_iff.1 ad
  have d1: ¬(i:Int)<((l.map dv).length:Int):=by rw[aT1]; omega
  rw[aT9 ck]at aD
  (have ax:=d1;refine bI ?_;clear ax)
  refine D.r ?_
  exact⟨by rw[←aD]; rfl,⟨rfl,trivial⟩,trivial⟩
theorem aE3 {f:FuncId}{T:TypeId}{cs:List I}(aO:cT aS9 f=true) (hb:dE 1 0 cs=true) (ab:eO ⟨[0],[]⟩ cs=cs) (g:Int→Bool) (l:List Int) (aE:l.length≤1000000000000) (h: ∀v∈l,aY aS9 f [.int .i64 v,.ptr 0 0] (aJ.of 1 0 [(0,T,cs)] []) (c8 (.bool (g v)) [(0,T,cs)] [])):aY aS9 268 [.ak 1 (l.map dv),.fn f [.ptr 0 0]] (aJ.of 1 0 [(0,T,cs)] []) (c8 (.bool (l.any g)) [(0,T,cs)] []):=by
 have e:=aF1 aO hb ab g l aE h
 rw[←sK]
 generalize cW (fun v=> !g v) l 0=z at e ⊢
 clear h
 refine aY.intro bk Tryz.func268 Ts ?_
 unfold Jw O9
 simp(disch:=omega)only[go_sem,simprocAttr]
 refine ap ?_
 refine D.vS hb ab (fS l) e ?_
 refine ap ?_
 refine D.r ?_
 exact⟨rfl,⟨rfl,trivial⟩,trivial⟩
end
end Go.aX.T.N
namespace Go.Proofs
set_option maxRecDepth 100000
theorem ax4 (w:World):(Instr.typeAssert .nilIface 20 180 true).run aS9 w= .ok (.tuple #[.agg #[.string ByteArray.empty,.int .i64 0],.bool false]) w:=by
 have aD:(Tryz.prog.info? 180).bind (·.zero)=some (.agg #[.string ByteArray.empty,.int .i64 0]):=by kernel_rfl
 cases ae:Tryz.prog.info? 180 with
 |none=>rw[ae]at aD; cases aD
 |some i=>
  rw[ae]at aD
  simp at aD
  simp [Instr.typeAssert,run_underlying Tryz.underlying180,zeroValue,typeInfo,ae,aD]
theorem Yv (p q:Value) (w:World):
  CallsD aS9 83 #[p,q] .returning w fun e pQ w'=>e= .returned (.tuple #[])∧pQ= .returning∧w'.os=w.os∧w'.tape=w.tape∧w'.output=w.output∧w'.heap.size=w.heap.size+1∧∀b,b<w.heap.size→w'.heap[b]? =w.heap[b]? :=by
 refine callsD_of_wpS Tryz.func83 rfl fun H9 cs hu=> ?_
 apply wpS_seq
 apply wpS_region
 simp [wpOpsS,go_sem,recoverD,hu,Tryz.ntmps83,Exit.thenS,ax4]
 apply wpS_seq
 apply wpS_region
 simp [wpOpsS,go_sem,Exit.thenS]
 refine wpS_cond (t:=false) (by simp [Act.eval,bc6]) ?_
 simp only[aU6,if_false]
 refine wpS_of_wp (wp_skip ?_)
 cases H9
 simp_all [bodyPostS,results,Tryz.results83]
 refine⟨rfl,rfl,fun b hb=> ?_⟩
 try rw[heap_setCell_other _ _ _ _ (by simp; omega),heap_setCell_other _ _ _ _ (by simp; omega)]
 show (w.heap.push _)[b]? = _
 rw[Array.getElem?_push,if_neg (by omega)]
 exact Array.getElem?_eq_getElem hb
end Go.Proofs
namespace Go.aX.T.N
open Go Go.aX Go.Proofs
theorem UU (fJ:List I) (ah:fJ.length=2):zM aS9 83 fJ:=by
 intro m ak aZ ad
 have aE:=aM.length ad
 match ak,aE with
 |[p,q],_=>
  refine (Yv p q m.w).mono ?_
  rintro e pQ w' ⟨rfl,rfl,h1,J,aA,bz,bZ⟩
  exact⟨⟨_,rfl⟩,rfl,m.L,m.T,bG.hid aZ h1 J aA (by omega) bZ,bH.hid h1 J aA (by omega) bZ⟩
 |[],h=>simp [ah]at h
 |[_],h=>simp [ah]at h
 | _:: _:: _:: _,h=>simp [ah]at h
end Go.aX.T.N
namespace Go.Proofs
set_option maxRecDepth 100000
theorem ax3 (v:Value) (w:World):(Instr.typeAssert (.iface 180 v) 20 180 true).run aS9 w= .ok (.tuple #[v,.bool true]) w:=by
 simp [Instr.typeAssert,run_underlying Tryz.underlying180]
end Go.Proofs
namespace Go.aX.T.N
open Go Go.aX Go.Proofs
set_option maxRecDepth 100000
def BH:List bC:=[⟨some 10,none,.nA 0 (.t 2)⟩,⟨some 11,none,.gq 2 false 1 (.t 10)⟩,⟨some 12,none,.nA 1 (.t 2)⟩,⟨some 13,none,.gq 2 false 1 (.t 12)⟩,⟨none,none,.gF 0 [1,2] 1 (.t 0) (.t 11)⟩,⟨none,none,.gF 1 [0,2] 1 (.t 1) (.t 13)⟩]
theorem FG (H:aw) (b:Nat) (T:TypeId) (cs:List I):(H.cc b T cs).aV b=some (T,cs):=if_pos rfl
theorem FF (H:aw){b k:Nat}(T:TypeId) (cs:List I) (h:k≠b):(H.cc b T cs).aV k=H.aV k:=if_neg h
theorem aI1 {H:aw}{ix ff z:Nat}{s:List UInt8}{e:Int}{v0 v1:I}{env:Env}{K:Env→aw→Prop}{Rp:I→aw→Prop}(ch:env.get 0= .ptr ix 0) (aj:env.get 1= .ptr ff 0) (aq:env.get 2= .ptr z 0)
  (aW:H.aV ix=some (9,[v0])) (h1:H.aV ff=some (41,[v1])) (J:H.aV z=some (180,[.str s,.int .i64 e])) (x3:ix≠ff) (d0:ix≠z) (d1:ff≠z)
  (dz: ∀a7,K a7 ((H.cc ix 9 [.str s]).cc ff 41 [.int .i64 e])):bh aS9 BH env H K Rp:=by
 unfold BH
 refine bh.p (v:= .ptr z 0) (by simp [bL,aH.aC,Env.get,aq]) ?_
 refine bh.p (v:= .str s) (by simp [bL,aH.aC,Env.get,aq,J,I.hJ,I.one]) ?_
 refine bh.p (v:= .ptr z 1) (by simp [bL,aH.aC,Env.get,aq]) ?_
 refine bh.p (v:= .int .i64 e) (by simp [bL,aH.aC,Env.get,aq,J,I.hJ,I.one]) ?_
 rw[zN]
 simp only[GStep,wanted]
 refine .gF (b:=ix) (o:=0) (T:=9) (cs:=[v0]) (by simp [Env.get,ch]) (fun s an=> ?_) (by simp [aH.aC,Env.get,ch]) aW rfl (aT4 _) rfl ?_
 ·simp only[aV8,aY4,or_false]at an
  rcases an with rfl|rfl
  ·exact⟨ff,by simp [Env.get,aj],x3.symm⟩
  ·exact⟨z,by simp [Env.get,aq],d0.symm⟩
 rw[zN]
 simp only[GStep,wanted]
 refine .gF (b:=ff) (o:=0) (T:=41) (cs:=[v1]) (by simp [Env.get,Env.put,aj]) (fun s an=> ?_) (by simp [aH.aC,Env.get,Env.put,aj]) (by rw[FF _ _ _ x3.symm]; exact h1) rfl (aT4 _) rfl ?_
 ·simp only[aV8,aY4,or_false]at an
  rcases an with rfl|rfl
  ·exact⟨ix,by simp [Env.get,Env.put,ch],x3⟩
  ·exact⟨z,by simp [Env.get,Env.put,aq],d1.symm⟩
 exact bh.nil (dz _)
theorem Z3:Tryz.prog.follows .mixedOrders=true:=by kernel_rfl
theorem UB:(match Tryz.f83.body with
  |some (.seq _ (.seq _ (.cond _ r _)))=>ko aS9 14 r (.region BH true)
  | _=>false)=true:=by kernel_rfl
set_option maxHeartbeats 8000000 in
theorem ae5 {m:Mem}(aZ:bG m){ix ff:Nat}{s:List UInt8}{e:Int}(an:s.length≤maxLen){v0 v1:I}(aW:m.H.aV ix=some (9,[v0])) (h1:m.H.aV ff=some (41,[v1])) (x3:ix≠ff):
  CallsD aS9 83 #[.pointer (some ⟨ix,0,none⟩),.pointer (some ⟨ff,0,none⟩)] (.panicking [{v:= .iface 180 (.agg #[.string ⟨⟨s⟩⟩,.int .i64 e]),recovered:=false}]) m.w fun x pQ w'=>
   (∃v,x= .returned v)∧pQ= .panicking [{v:= .iface 180 (.agg #[.string ⟨⟨s⟩⟩,.int .i64 e]),recovered:=true}]∧∃av fI cu,bG ⟨w',av,fI,cu⟩∧bH m ⟨w',av,fI,cu⟩∧av=(m.H.cc ix 9 [.str s]).cc ff 41 [.int .i64 e]:=by
 have vk:=sb aZ aW
 have aR:=sb aZ h1
 obtain⟨z,aD⟩: ∃z,z=m.w.heap.size:=⟨_,rfl⟩
 refine callsD_of_wpS Tryz.func83 rfl fun H9 cs hu=> ?_
 apply wpS_seq
 apply wpS_region
 simp [wpOpsS,go_sem,recoverD,hu,Tryz.ntmps83,Exit.thenS,ax3]
 apply wpS_seq
 apply wpS_region
 simp [wpOpsS,go_sem,Exit.thenS]
 refine wpS_cond (t:=true) (by simp [Act.eval,bc6]) ?_
 simp only[if_true]
 refine wpS_of_wp ?_
 have aS:=UB
 simp only[Tryz.f83]at aS
 have ap3:bG (m.bN 180 [.str s,.int .i64 e] [.string ⟨⟨s⟩⟩,.int .i64 e]):=bG.bN aZ (by simp [aM,aK,an]) (by simp [Value.oneCell'])
 have VX:=bH.bN m 180 [.str s,.int .i64 e] [.string ⟨⟨s⟩⟩,.int .i64 e]
 refine an9 (n:=14) (m0:=⟨m,[],[]⟩) (anns:=[]) (ops:=BH) (env:=[(0,.ptr ix 0),(1,.ptr ff 0),(2,.ptr z 0)]) (H:=m.H.cc z 180 [.str s,.int .i64 e]) (K:=fun _ H=>H=((m.H.cc z 180 [.str s,.int .i64 e]).cc ix 9 [.str s]).cc ff 41 [.int .i64 e]) (Rp:=fun _ _=>False) Z3 rfl aS (fun x aU jY a h=>h.elim) (fun env H a w dz ab=> ?_) ?_ ⟨m.bN 180 [.str s,.int .i64 e] [.string ⟨⟨s⟩⟩,.int .i64 e],?_,by rw[aD]; rfl,ap3,VX,fun k=> ?_,⟨rfl,fun E dp=>by cases dp⟩,?_⟩
 ·obtain⟨aU,rfl,rfl,Fu,Dt,_,gI,_⟩:=ab
  have LF:HSub ((m.H.cc ix 9 [I.str s]).cc ff 41 [I.int IntKind.i64 e]) aU.H:=by
   rw[dz]
   refine⟨fun b x hb=> ?_,fun t i aF=>aF⟩
   have Xa:m.H.aV z=none:=by rw[aD]; exact vY aZ
   simp only[aw.cc]at hb ⊢
   by_cases br:b=ff
   ·simpa [br] using hb
   by_cases sz:b=ix
   ·simpa [br,sz] using hb
   simp only[br,sz,if_false]at hb ⊢
   rw[if_neg (by intro e; rw[e,Xa]at hb; cases hb)]
   exact hb
  refine⟨gI.1,_,rfl,.tuple #[],by simp [Go.results,Tryz.results83],⟨_,rfl⟩,rfl,_,aU.L,aU.T,bG.forget LF Fu,bH.forget LF Dt,rfl⟩
 ·refine aI1 rfl rfl rfl (by rw[FF _ _ _ (by omega)]; exact aW) (by rw[FF _ _ _ (by omega)]; exact h1) (FG _ _ _ _) x3 (by omega) (by omega) fun _=>rfl
 ·rfl
 ·match k with
  |0=>simp [Env.get,aK,bc6]
  |1=>simp [Env.get,aK,bc6]
  |2=>simp [Env.get,aK,bc6,aD]
  |k+3=>simp [Env.get,aK]
 ·simp
def lf (n:List UInt8) (e:Int):I:= .gJ 180 (.agg [.str n,.int .i64 e])
theorem UW {c:aJ}{ix ff:Nat}{v0 v1:I}{s:List UInt8}{e:Int}(dP:ix≠ff) (yi:c.H.aV ix=some (9,[v0])) (mb:c.H.aV ff=some (41,[v1])):
  vQ aS9 83 [.ptr ix 0,.ptr ff 0] (lf s e) c fun c2=>c2=(c.cc ix 9 [.str s]).cc ff 41 [.int .i64 e]:=by
 intro H0 Qn xV cE H Lb U ab
 simp only[bd,aI]at Lb
 obtain⟨_,_,rfl,⟨Gm,g0,rfl⟩,_,_,rfl,⟨ui,g1,rfl⟩,rfl⟩:=Lb
 have jI:cE=lf s e:=(I.j1 (lf s e) rfl cE).1 U
 subst jI
 intro m ak jY hH aZ ad ym
 subst hH
 simp only[aM,aK,lf]at ad ym
 obtain⟨_,_,rfl,rfl,_,_,rfl,rfl,rfl⟩:=ad
 obtain⟨x,rfl,l,rfl,_,_,rfl,⟨rfl,X6⟩,_,_,rfl,rfl,rfl⟩:=ym
 obtain⟨z0,vk,sz,jN,iG⟩:=ab.aV _ _ _ yi
 obtain⟨ax,aR,br,b5,cb⟩:=ab.aV _ _ _ mb
 rw[g0]at sz
 rw[g1]at br
 cases sz
 cases br
 have cF:=bd.length iG
 have tQ:=bd.length cb
 match vk,cF,jN with
 |[ub],_,jN=>
 match aR,tQ,b5 with
 |[rW],_,b5=>
 refine (ae5 aZ X6 jN b5 (fun e=> ?_)).mono ?_
 ·subst e; exact absurd (ab.kS _ _ _ g0 g1) dP
 rintro cd pQ w' ⟨h1,J,av,fI,cu,aA,bz,rfl⟩
 refine⟨h1,J,_,fI,cu,aA,bz,Qn,_,bl.dU.refl Qn,rfl,?_⟩
 exact (ab.cc g0 (by simp [bd,aI])).cc g1 (by simp [bd,aI])
end Go.aX.T.N
namespace Go.aX.T.N
open Go Go.aX Go.Proofs Go.RowKit
set_option maxRecDepth 100000
attribute [local irreducible] Go.aX.ay Go.aX.ai Go.aX.aY
section
attribute [local go_sem] bQ.row dZ
theorem QW (k cm ae:Int):Pure aS9 163 [.agg [.int .i64 k,.int .i64 cm,.int .i64 ae]] (.bool (nN k cm ae)):=by
 refine dt bk Tryz.func163 SO rfl rfl ?_
 unfold IW Ox
 simp(disch:=omega)only[go_sem,simprocAttr]
 (repeat' first|refine D.S ?_|refine D.iv true true ?_|refine ai.nil ?_|refine ay.dr ?_|refine D.W ?_|refine D.Z ?_|refine D.G ?_ ?_|refine D.X ‹_› ?_|refine D.jU ‹_› ?_|refine D.jV ‹_› ?_|intro h|refine D.C ?_ ?_)
 all_goals (refine D.R ?_)
 all_goals (refine⟨_,rfl,.aQ ?_ rfl,trivial,trivial⟩; simp_all [nN,I.aQ]<;>(try omega))
theorem aF5 (k cm ae:Int):Pure aS9 377 [.agg [.int .i64 k,.int .i64 cm,.int .i64 ae]] (.bool (nN k cm ae)):=by
 refine dt bk Tryz.func377 TY rfl rfl ?_
 unfold JZ PG
 simp(disch:=omega)only[go_sem,simprocAttr]
 (repeat' first|refine D.S ?_|refine D.iv true true ?_|refine ai.nil ?_|refine ay.dr ?_|refine D.W ?_|refine D.Z ?_|refine D.G ?_ ?_|refine D.X ‹_› ?_|refine D.jU ‹_› ?_|refine D.jV ‹_› ?_|intro h|refine D.C ?_ ?_)
 all_goals (refine D.R ?_)
 all_goals (refine⟨_,rfl,.aQ ?_ rfl,trivial,trivial⟩; simp_all [nN,I.aQ]<;>(try omega))
theorem aD4 (s:List UInt8):Pure aS9 228 [.str s] (.bool (s.all ev)):=by
 have e:=ad5 s
 generalize s.all ev=b at e ⊢
 refine dt bk Tryz.func228 Ti rfl rfl ?_
 unfold Jm OZ
 simp(disch:=omega)only[go_sem,simprocAttr]
 refine ap ?_
 refine D.P (e) ?_
 refine ap ?_
 refine D.r ?_
 refine⟨_,rfl,.aQ ?_ rfl,trivial,trivial⟩
 simp only[I.aQ,bf6]
theorem QS (v:bQ):Pure aS9 127 [.agg [.int .i64 v.ei,.int .i64 v.n,.str v.s]] (.bool (zD v)):=by
 obtain⟨hF,gj,cm,ae,ei,n,s⟩:=v
 have e:=aD4 s
 have ac: ∃R,R=zD ⟨hF,gj,cm,ae,ei,n,s⟩:=⟨_,rfl⟩
 obtain⟨R,ac⟩:=ac
 rw[←ac]
 simp only[zD]at ac
 generalize s.all ev=b at e ac
 refine dt bk Tryz.func127 SB rfl rfl ?_
 unfold II Og
 simp(disch:=omega)only[go_sem,simprocAttr]
 by_cases h1:ei=1
 ·subst h1
  (repeat' first|refine D.S ?_|refine D.iv true true ?_|refine ai.nil ?_|refine ay.dr ?_|refine D.W ?_|refine D.Z ?_|refine D.G ?_ ?_|refine D.X ‹_› ?_|refine D.jU ‹_› ?_|refine D.jV ‹_› ?_|intro h|refine D.C ?_ ?_)
  all_goals (refine D.R ?_)
  all_goals (refine⟨_,rfl,.aQ ?_ rfl,trivial,trivial⟩; rw[ac]; simp_all [I.aQ]<;>(try (intros; omega)))
 by_cases J:ei=2
 rotate_left
 ·(have ax:=h1;have z2:=J;refine fX ?_;clear ax z2)
  refine D.r ?_
  exact⟨_,rfl,.aQ (by rw[ac,if_neg h1,if_neg J]; rfl) rfl,trivial,trivial⟩
 subst J
 rw[if_neg h1,if_pos rfl]at ac
 by_cases aA:n=0
 rotate_left
 ·(have ax:=aA;refine bI ?_;clear ax)
  refine D.r ?_
  exact⟨_,rfl,.aQ (by rw[ac]; simp [aA,I.aQ]) rfl,trivial,trivial⟩
 by_cases bz:s.length≤40
 rotate_left
 ·have d4: ¬(s.length:Int)≤40:=by omega
  (have ax:=aA;have z2:=d4;refine fX ?_;clear ax z2)
  refine D.r ?_
  exact⟨_,rfl,.aQ (by rw[ac]; simp [bz,I.aQ]) rfl,trivial,trivial⟩
 have d4:(s.length:Int)≤40:=by omega
 (have ax:=aA;have z2:=d4;refine fX ?_;clear ax z2)
 refine D.P (e) ?_
 refine ap ?_
 refine D.r ?_
 exact⟨_,rfl,.aQ (by rw[ac]; simp [aA,bz,I.aQ]) rfl,trivial,trivial⟩
theorem aD5 (v:bQ):Pure aS9 257 [.agg [.int .i64 v.ei,.int .i64 v.n,.str v.s]] (.int .i64 (yY v)):=by
 obtain⟨hF,gj,cm,ae,ei,n,s⟩:=v
 refine dt bk Tryz.func257 Tk rfl rfl ?_
 unfold Jo O1
 simp(disch:=omega)only[go_sem,simprocAttr]
 (repeat' first|refine D.S ?_|refine D.iv true true ?_|refine ai.nil ?_|refine ay.dr ?_|refine D.W ?_|refine D.Z ?_|refine D.G ?_ ?_|refine D.X ‹_› ?_|refine D.jU ‹_› ?_|refine D.jV ‹_› ?_|intro h|refine D.C ?_ ?_)
 all_goals (refine D.R ?_)
 all_goals (refine⟨_,rfl,.aQ ?_ rfl,trivial,trivial⟩; simp_all [yY,I.aQ]<;>(try omega))
theorem aC3 (v:bQ):Pure aS9 149 [.agg [.int .i64 v.gj,.int .i64 v.cm,.int .i64 v.ae],.agg [.int .i64 v.ei,.int .i64 v.n,.str v.s]] (.bool (wv v)):=by
 have aj:=aD5 v
 have aq:=QW v.gj v.cm v.ae
 have bD:=QS v
 obtain⟨hF,gj,cm,ae,ei,n,s⟩:=v
 have ac: ∃R,R=wv ⟨hF,gj,cm,ae,ei,n,s⟩:=⟨_,rfl⟩
 obtain⟨R,ac⟩:=ac
 rw[←ac]
 simp only[wv]at ac
 simp only at aj aq bD
 generalize yY ⟨hF,gj,cm,ae,ei,n,s⟩=z at aj ac
 generalize zD ⟨hF,gj,cm,ae,ei,n,s⟩=lE at bD ac
 generalize nN gj cm ae=jf at aq ac
 refine dt bk Tryz.func149 SF rfl rfl ?_
 unfold IM Ol
 simp(disch:=omega)only[go_sem,simprocAttr]
 refine ap ?_
 refine D.P (aj) ?_
 refine ap ?_
 refine D.P (aq) ?_
 cases jf
 ·refine ap ?_
  refine D.r ?_
  exact⟨_,rfl,.aQ (by rw[ac]; rfl) rfl,trivial,trivial⟩
 refine ap ?_
 refine D.P (bD) ?_
 cases lE
 ·refine ap ?_
  refine D.r ?_
  exact⟨_,rfl,.aQ (by rw[ac]; rfl) rfl,trivial,trivial⟩
 (repeat' first|refine D.S ?_|refine D.iv true true ?_|refine ai.nil ?_|refine ay.dr ?_|refine D.W ?_|refine D.Z ?_|refine D.G ?_ ?_|refine D.X ‹_› ?_|refine D.jU ‹_› ?_|refine D.jV ‹_› ?_|intro h|refine D.C ?_ ?_)
 all_goals (refine D.R ?_)
 all_goals (refine⟨_,rfl,.aQ ?_ rfl,trivial,trivial⟩; rw[ac]; simp_all [I.aQ]<;>(try omega))
theorem D.Rx {cN:Program}{anns:List I}{l:List bC}{env:Env}{K:Env→aJ→Prop}{Rp:I→aJ→Prop}{x:aH}{T:TypeId}{v:I}{c:aJ}(h:Rp (.gJ T v) c) (U:bi env x= .gJ T v:=by simp (disch:=omega) only[go_sem,simprocAttr]<;>with_reducible rfl):ai cN anns (⟨none,none,.panic x⟩::l) env c K Rp:=ai.af8 rfl U h
theorem F9 (n:bT) (e:Int):Pure aS9 84 [.bool true,.str n,.int .i64 e] (.cV []):=by
 refine dt bk Tryz.func84 Hx rfl rfl ?_
 unfold Dn Fp
 simp(disch:=omega)only[go_sem,simprocAttr]
 refine ap ?_
 exact D.rx
theorem F8 (n:bT) (e:Int):aY aS9 84 [.bool false,.str n,.int .i64 e] (aJ.of 0 0 [] []) (q1 (lf n e)):=by
 refine aY.intro bk Tryz.func84 Hx ?_
 unfold Dn Fp
 simp(disch:=omega)only[go_sem,simprocAttr]
 refine ap ?_
 refine D.Rx ?_
 exact rfl
end
end Go.aX.T.N
