/- Part of a proof; own work. -/
import Derived.Below
import Derived.Lib.OthersKept
import Derived.Deep.LoopGhost
import Derived.Laws.RangeAny
import Derived.Test.YtlemhelnmidpfaaGreatDoorVS8
set_option linter.unusedVariables false
set_option linter.unusedSimpArgs false
open Array renaming length_toList→aX4
open Bool renaming false_eq_true→aU6,true_and→aU7
open List renaming drop_eq_nil_of_le→aT9,length_map→aT1,length_drop→bd3,length_cons→aT3,length_take→aX3,length_append→aT2,length_nil→aU1
open Nat renaming le_refl→aT4,reduceBEq→bd1,reduceAdd→bd2,le_of_ble_eq_true→aZ3
open Go.Proofs.Tryz renaming prog→aS9
namespace Go.aX.T.N
open Go Go.aX Go.Proofs Go.RowKit
set_option maxRecDepth 100000
attribute [local irreducible] Go.aX.bh Go.aX.aw.cc Go.aX.aw.b7
attribute [local go_sem] bL aH.aC Env.get p8 sa s6 nl I.cells I.ev fs kC I.one I.hJ gb nz jB cond_true cond_false beq_self_eq_true Bool.not_true Bool.not_false beq_true beq_false eq_self if_true Option.some.injEq aT3 aU1 List.take_succ_cons List.take_zero List.drop_succ_cons List.drop_zero List.set_cons_succ List.set_cons_zero List.nil_append List.cons_append List.append_nil and_self Option.map_some List.map_cons List.map_nil aU6 if_false Nat.zero_add Nat.add_zero true_and and_true Bool.and_true aU7 List.getElem?_cons_zero List.getElem?_cons_succ Nat.zero_le aT4
section
theorem bh.at5 {P:Program}{d len size:Nat}{l:List bC}{env:Env}{H:aw}{K:Env→aw→Prop}{Rp:I→aw→Prop}{x:aH}{b:Nat}{T:TypeId}{cs:List I}{rows:List (List I)}(hf:rows.flatten=cs) (ab: ∀r∈rows,r.length=size) (hl:rows.length=len) (h0:0<len) (hm:len≤maxLen) (hx:x.aC env= .ptr b 0) (hb:H.aV b=some (T,cs)) (h:bh P l ((d,.ak size rows)::env) (H.oF b) K Rp):bh P (⟨some d,none,.xj len size x⟩::l) env H K Rp:=by
 simp only[bh,wanted]
 exact gH.xk hx hb hf ab hl h0 hm h
theorem Zt:(vj.map ca).flatten=vj.map .str:=rfl
theorem X8 {H:aw}{b:Nat}{T1 T2:TypeId}{c1 c2:List I}(hb:H.aV b=none):HSub H (((H.cc b T1 c1).cc b T2 c2).oF b):=
 ⟨fun x y h=>by
  simp only[aw.cc,aw.oF]
  by_cases e:x=b
  ·subst e; rw[hb]at h; cases h
  ·rw[if_neg e,if_neg e,if_neg e]; exact h,fun _ _ h=>by simpa [aw.cc,aw.oF] using h⟩
theorem oT (s:List UInt8):Pure aS9 109 [.str s] (.bool (gC s)):=by
 have h101:=ah3 s
 have h102:=NS vj s (by decide)
 unfold gC
 cases hn:yE s
 all_goals
  rw[hn]at h101
  refine pure_intro bk Tryz.func109 Sp fun H=> ?_
  unfold Ix N5
  simp only[kR,initFrom]
  refine ci.seq ?_
  refine e3.go .rg ?_
  refine bh.p (v:= .bool false) rfl ?_
  refine e3.go .wZ ?_
  refine ci.seq ?_
  refine e3.go .rg ?_
  refine bh.p (v:= .agg (vj.map .str)) (by kernel_rfl) ?_
  refine e3.go (.al (by decide)) ?_
  intro b hb
  refine e3.go (.Qk (new:=vj.map .str) (o:=0) rfl DB rfl rfl (by decide) (by decide) rfl rfl) ?_
  refine e3.go .wZ ?_
 ·repeat' first|refine e3.g ?_|(intro b hb;repeat first|(refine mH hb ?_;intro _ _ hb)|(refine mG hb ?_;intro hb))|refine rt ?_|refine l7 rfl ?_|refine gR rfl ?_|apply lI rfl|apply lH rfl|(apply bh.mJ;rfl)|(apply bh.mI;rfl)|intro h
  (apply bh.vy (h101); (·simp only[go_sem,bd1,bd2]<;>rfl); (·exact dD.refl _))
  repeat' first|refine e3.g ?_|(intro b hb;repeat first|(refine mH hb ?_;intro _ _ hb)|(refine mG hb ?_;intro hb))|refine rt ?_|refine l7 rfl ?_|refine gR rfl ?_|apply lI rfl|apply lH rfl|(apply bh.mJ;rfl)|(apply bh.mI;rfl)|intro h
  refine lZ.g ?_
  exact cR.refl _
 ·repeat' first|refine e3.g ?_|(intro b hb;repeat first|(refine mH hb ?_;intro _ _ hb)|(refine mG hb ?_;intro hb))|refine rt ?_|refine l7 rfl ?_|refine gR rfl ?_|apply lI rfl|apply lH rfl|(apply bh.mJ;rfl)|(apply bh.mI;rfl)|intro h
  (apply bh.vy (h101); (·simp only[go_sem,bd1,bd2]<;>rfl); (·exact dD.refl _))
  repeat' first|refine e3.g ?_|(intro b hb;repeat first|(refine mH hb ?_;intro _ _ hb)|(refine mG hb ?_;intro hb))|refine rt ?_|refine l7 rfl ?_|refine gR rfl ?_|apply lI rfl|apply lH rfl|(apply bh.mJ;rfl)|(apply bh.mI;rfl)|intro h
  (apply bh.at5 (rows:=vj.map ca) Zt (by intro r ab; obtain⟨_,_,rfl⟩:=List.mem_map.1 ab; rfl) rfl (by decide) (by decide); (·rfl); (·exact DB))
  repeat' first|refine e3.g ?_|(intro b hb;repeat first|(refine mH hb ?_;intro _ _ hb)|(refine mG hb ?_;intro hb))|refine rt ?_|refine l7 rfl ?_|refine gR rfl ?_|apply lI rfl|apply lH rfl|(apply bh.mJ;rfl)|(apply bh.mI;rfl)|intro h
  (apply bh.vy (h102); (·simp only[go_sem,bd1,bd2]<;>rfl); (·exact dD.refl _))
  repeat' first|refine e3.g ?_|(intro b hb;repeat first|(refine mH hb ?_;intro _ _ hb)|(refine mG hb ?_;intro hb))|refine rt ?_|refine l7 rfl ?_|refine gR rfl ?_|apply lI rfl|apply lH rfl|(apply bh.mJ;rfl)|(apply bh.mI;rfl)|intro h
  refine ci.forget H (X8 hb) ?_
  refine lZ.g ?_
  exact cR.refl _
end
section
theorem HB {P:Program}{f:FuncId}{args:List I}{r:I}(h:Pure P f args r) (w:World) (ak:List Value) (aL: ∀m,aM m args ak) (hG:lz w):
  Calls P f ⟨ak⟩ w fun e w'=>(∃v,e= .returned v∧∃m:Mem,aK m r v)∧Below w.heap.size w w':=by
 have:=h aw.none ⟨w,aw.none,fun _=> .nilFunc,0⟩ ak rfl ⟨fun b T cs hb=>by simp [aw.none]at hb,fun t i ae=>by simp [aw.none]at ae,hG,fun p hp=>⟨rfl,fun t i ae=>by simp [aw.none]at ae⟩⟩ (aL _)
 refine this.mono fun e w' ⟨o,H',L',T',g1,g2,g3,g4,g5⟩=> ?_
 subst g4
 simp only[pU]at g3
 obtain⟨v,e1,e2⟩:=g3
 exact⟨⟨v,e1,_,e2⟩,⟨g2.os,g2.tape,g2.output,g2.size,fun b hb=>(g2.block b hb rfl (fun t i ae=>by simp [aw.none]at ae)).1⟩⟩
def bad (n:Nat):Bool:=decide ((n:Int)<32)||decide ((126:Int)<n)
theorem ad6 (n:Nat):Pure aS9 294 [.int .i32 (n:Int)] (.bool (bad n)):=by
 refine pure_intro bk Tryz.func294 Tv fun H=> ?_
 unfold Jz Pc
 simp only[kR,initFrom]
 repeat' first|refine e3.g ?_|(intro b hb;repeat first|(refine mH hb ?_;intro _ _ hb)|(refine mG hb ?_;intro hb))|refine rt ?_|refine l7 rfl ?_|refine gR rfl ?_|apply lI rfl|apply lH rfl|(apply bh.mJ;rfl)|(apply bh.mI;rfl)|intro h
 all_goals (refine lZ.g ?_)
 all_goals (refine G0 ?_; rw[I.bool.injEq,Bool.eq_iff_iff]; simp [bad]at*; try omega)
def idxFrom (s:ByteArray):Nat→Nat→Int
 |0,_=> -1
 |f+1,pos=>if pos<s.size then (if bad (Utf8.decode s pos).1 then (pos:Int) else idxFrom s f (pos+(Utf8.decode s pos).2)) else-1
theorem LP (s:ByteArray) (f pos:Nat) (h: ¬pos<s.size):idxFrom s f pos= -1:=by cases f<;>simp [idxFrom,h]
theorem Q9 (s:ByteArray) (pos:Nat) (h:pos<s.size):1≤(Utf8.decode s pos).2:=by
 by_cases aL:(s[pos]'h).toNat<128
 ·rw[decode_ascii s pos h aL]; exact aT4 _
 ·exact (decode_high s pos h (by omega)).2
open Go.Lib in
set_option maxHeartbeats 2000000 in
theorem aH4 (s:ByteArray) (w:World) (hG:lz w):Calls aS9 385 #[.string s,.func (.func 294) #[] #[],.bool true] w fun e w'=>e= .returned (.int .i64 (idxFrom s s.size 0))∧Below w.heap.size w w':=by
 have hp: ∀(W:World) (r:Nat),lz W→Calls aS9 294 #[.int .i32 (r:Int)] W fun e w'=>e= .returned (.bool (bad r))∧Below W.heap.size W w':=by
  intro W r hGW
  refine (HB (hG:=hGW) (ad6 r) W [.int .i32 (r:Int)] (fun m=>by simp only[aM,aK]; exact⟨_,_,rfl,rfl,rfl⟩)).mono ?_
  rintro e w' ⟨⟨v,rfl,m,hv⟩,hb⟩
  simp only[aK]at hv
  subst hv
  exact⟨rfl,hb⟩
 go_enter Tryz.func385,Tryz.ntmps385
 go_wp2
 go_loopg [] s.size (fun gf wx=> ∃pos:Nat,wx.heap[w.heap.size]? =some (.stringIter s pos)∧Below w.heap.size w wx∧idxFrom s gf pos=idxFrom s s.size 0∧s.size≤pos+gf)
 case atStart=>exact⟨0,World.iter_heap w s 0,(Below.refl _ w).alloc (aT4 _) _,rfl,by omega⟩
 case round=>
  obtain⟨pos,hit,hbw,hleft,hfu⟩:=hrel
  by_cases hps:pos<s.size
  ·obtain⟨g',rfl⟩: ∃g',gk=g'+1:=⟨gk-1,by omega⟩
   have hnx: ∀ty,(Instr.next (.pointer (some ⟨w.heap.size,0,none⟩)) true ty).run aS9 wr= _:=fun ty=>Lib.run_next_any_at wr w.heap.size s pos ty hit hps
   have hwd:=Q9 s pos hps
   obtain⟨R,hR⟩: ∃R,(Utf8.decode s pos).1=R:=⟨_,rfl⟩
   obtain⟨K,hK⟩: ∃K,(Utf8.decode s pos).2=K:=⟨_,rfl⟩
   simp only[idxFrom,hps,if_true,hR,hK]at hleft
   rw[hR,hK]at hnx
   rw[hK]at hwd
   have hit2:=Lib.iterAt_heap wr w.heap.size s pos (pos+K) hit
   have hbw2:=Lib.below_iterAt hbw (k:=w.heap.size) (aT4 _) s (pos+K)
   obtain⟨W,hWd⟩: ∃W,wr.iterAt w.heap.size s (pos+K)=W:=⟨_,rfl⟩
   rw[hWd]at hnx hit2 hbw2
   have cS:=hp W R (lz.below hG (aT4 _) hbw2)
   clear hp
   have hlt:w.heap.size<W.heap.size:=(Array.getElem?_eq_some_iff.1 hit2).1
   cases hsp:bad R<;>rw[hsp]at cS<;>simp only[hsp,if_true,aU6,if_false]at hleft
   ·go_wp2_with (refine cS.mono ?_; rintro e W' ⟨rfl,q⟩)
    go_roundg g'
    case measure=>omega
    case rel=>exact⟨pos+K,(q.block _ hlt).trans hit2,hbw2.trans (q.mono (by omega)),hleft,by omega⟩
   ·go_wp2_with (refine cS.mono ?_; rintro e W' ⟨rfl,q⟩)
    go_ret
    exact⟨by rw[←hleft]<;>rfl,hbw2.trans (q.mono (by omega))⟩
  ·have hnx: ∀ty,(Instr.next (.pointer (some ⟨w.heap.size,0,none⟩)) true ty).run aS9 wr= _:=fun ty=>Lib.run_next_end_at wr w.heap.size s pos ty hit hps
   rw[LP s gk pos hps]at hleft
   go_wp2
   go_ret
   exact⟨by rw[←hleft]<;>rfl,hbw⟩
def ev (b:UInt8):Bool:=decide (32≤b.toNat)&&decide (b.toNat≤126)
theorem LR (bU:ByteArray): ∀(f pos:Nat),bU.size≤pos+f→decide (0≤idxFrom bU f pos)= !((bU.data.toList.drop pos).all ev)
 |0,pos,h=>by
  have:bU.data.toList.drop pos=[]:=aT9 (by rw[aX4]; exact (by omega:bU.size≤pos))
  simp [idxFrom,this]
 |f+1,pos,h=>by
  by_cases hp:pos<bU.size
  ·have hd:bU.data.toList.drop pos=bU[pos]::bU.data.toList.drop (pos+1):=by
    rw[List.drop_eq_getElem_cons (by rw[aX4]; exact hp)]
    rfl
   simp only[idxFrom,hp,if_true,hd,List.all_cons]
   by_cases aL:(bU[pos]'hp).toNat<128
   ·rw[decode_ascii bU pos hp aL]
    have ih:=LR bU f (pos+1) (by omega)
    by_cases hb:ev bU[pos]=true
    ·have:bad (bU[pos]).toNat=false:=by simp [ev]at hb; simp [bad]; omega
     simp only[this,hb,aU7,aU6,if_false]
     exact ih
    ·have:bad (bU[pos]).toNat=true:=by simp [ev]at hb; simp [bad]; omega
     have hb':ev bU[pos]=false:=by simpa using hb
     simp [this,hb']
   ·have hh:=(decode_high bU pos hp (by omega)).1
    have:bad (Utf8.decode bU pos).1=true:=by simp [bad]; omega
    have hb':ev bU[pos]=false:=by simp [ev]; omega
    simp [this,hb']
  ·have:bU.data.toList.drop pos=[]:=aT9 (by rw[aX4]; exact (by omega:bU.size≤pos))
   simp [idxFrom,hp,this]
def yD (s:List UInt8):Int:=idxFrom ⟨⟨s⟩⟩ s.length 0
theorem LO (s:List UInt8):decide (0≤yD s)= !(s.all ev):=by
 have:=LR ⟨⟨s⟩⟩ s.length 0 (by show s.length≤0+s.length; omega)
 exact this
theorem ae1 (s:List UInt8):Pure aS9 385 [.str s,.fn 294 [],.bool true] (.int .i64 (yD s)):=by
 refine zd fun m ak hG hv=> ?_
 simp only[aM,aK]at hv
 obtain⟨_,_,rfl,⟨rfl,_⟩,_,_,rfl,⟨l,rfl,rfl⟩,_,_,rfl,rfl,rfl⟩:=hv
 have e:qm 294 []= .func (.func 294) #[] #[]:=uG (by decide) []
 rw[e]
 refine (aH4 ⟨⟨s⟩⟩ m.w hG).mono ?_
 rintro e w' ⟨rfl,hb⟩
 exact⟨_,rfl,fun m'=>by simp only[aK]; rfl,hb⟩
theorem ad9 (s:List UInt8):Pure aS9 354 [.str s,.fn 294 []] (.int .i64 (yD s)):=by
 refine pure_intro bk Tryz.func354 Hu fun H=> ?_
 unfold Dk Fl
 simp only[kR,initFrom]
 repeat' first|refine e3.g ?_|(intro b hb;repeat first|(refine mH hb ?_;intro _ _ hb)|(refine mG hb ?_;intro hb))|refine rt ?_|refine l7 rfl ?_|refine gR rfl ?_|apply lI rfl|apply lH rfl|(apply bh.mJ;rfl)|(apply bh.mI;rfl)|intro h
 (apply bh.vy (ae1 _); (·simp only[go_sem,bd1,bd2]<;>rfl); (·exact dD.refl _))
 repeat' first|refine e3.g ?_|(intro b hb;repeat first|(refine mH hb ?_;intro _ _ hb)|(refine mG hb ?_;intro hb))|refine rt ?_|refine l7 rfl ?_|refine gR rfl ?_|apply lI rfl|apply lH rfl|(apply bh.mJ;rfl)|(apply bh.mI;rfl)|intro h
 refine lZ.g ?_
 exact cR.refl _
theorem ad4 (s:List UInt8):Pure aS9 293 [.str s,.fn 294 []] (.bool (!(s.all ev))):=by
 refine pure_intro bk Tryz.func293 Hs fun H=> ?_
 unfold Di Fj
 simp only[kR,initFrom]
 repeat' first|refine e3.g ?_|(intro b hb;repeat first|(refine mH hb ?_;intro _ _ hb)|(refine mG hb ?_;intro hb))|refine rt ?_|refine l7 rfl ?_|refine gR rfl ?_|apply lI rfl|apply lH rfl|(apply bh.mJ;rfl)|(apply bh.mI;rfl)|intro h
 (apply bh.vy (ad9 _); (·simp only[go_sem,bd1,bd2]<;>rfl); (·exact dD.refl _))
 repeat' first|refine e3.g ?_|(intro b hb;repeat first|(refine mH hb ?_;intro _ _ hb)|(refine mG hb ?_;intro hb))|refine rt ?_|refine l7 rfl ?_|refine gR rfl ?_|apply lI rfl|apply lH rfl|(apply bh.mJ;rfl)|(apply bh.mI;rfl)|intro h
 refine lZ.g ?_
 rw[LO]
 exact cR.refl _
theorem ae3 (n:Nat):Pure aS9 320 [.int .i32 (n:Int)] (.bool (bad n)):=by
 refine pure_intro bk Tryz.func320 TK fun H=> ?_
 unfold JN Ps
 simp only[kR,initFrom]
 repeat' first|refine e3.g ?_|(intro b hb;repeat first|(refine mH hb ?_;intro _ _ hb)|(refine mG hb ?_;intro hb))|refine rt ?_|refine l7 rfl ?_|refine gR rfl ?_|apply lI rfl|apply lH rfl|(apply bh.mJ;rfl)|(apply bh.mI;rfl)|intro h
 all_goals (refine lZ.g ?_)
 all_goals (refine G0 ?_; rw[I.bool.injEq,Bool.eq_iff_iff]; simp [bad]at*; try omega)
open Go.Lib in
set_option maxHeartbeats 2000000 in
theorem aH5 (s:ByteArray) (w:World) (hG:lz w):Calls aS9 385 #[.string s,.func (.func 320) #[] #[],.bool true] w fun e w'=>e= .returned (.int .i64 (idxFrom s s.size 0))∧Below w.heap.size w w':=by
 have hp: ∀(W:World) (r:Nat),lz W→Calls aS9 320 #[.int .i32 (r:Int)] W fun e w'=>e= .returned (.bool (bad r))∧Below W.heap.size W w':=by
  intro W r hGW
  refine (HB (hG:=hGW) (ae3 r) W [.int .i32 (r:Int)] (fun m=>by simp only[aM,aK]; exact⟨_,_,rfl,rfl,rfl⟩)).mono ?_
  rintro e w' ⟨⟨v,rfl,m,hv⟩,hb⟩
  simp only[aK]at hv
  subst hv
  exact⟨rfl,hb⟩
 go_enter Tryz.func385,Tryz.ntmps385
 go_wp2
 go_loopg [] s.size (fun gf wx=> ∃pos:Nat,wx.heap[w.heap.size]? =some (.stringIter s pos)∧Below w.heap.size w wx∧idxFrom s gf pos=idxFrom s s.size 0∧s.size≤pos+gf)
 case atStart=>exact⟨0,World.iter_heap w s 0,(Below.refl _ w).alloc (aT4 _) _,rfl,by omega⟩
 case round=>
  obtain⟨pos,hit,hbw,hleft,hfu⟩:=hrel
  by_cases hps:pos<s.size
  ·obtain⟨g',rfl⟩: ∃g',gk=g'+1:=⟨gk-1,by omega⟩
   have hnx: ∀ty,(Instr.next (.pointer (some ⟨w.heap.size,0,none⟩)) true ty).run aS9 wr= _:=fun ty=>Lib.run_next_any_at wr w.heap.size s pos ty hit hps
   have hwd:=Q9 s pos hps
   obtain⟨R,hR⟩: ∃R,(Utf8.decode s pos).1=R:=⟨_,rfl⟩
   obtain⟨K,hK⟩: ∃K,(Utf8.decode s pos).2=K:=⟨_,rfl⟩
   simp only[idxFrom,hps,if_true,hR,hK]at hleft
   rw[hR,hK]at hnx
   rw[hK]at hwd
   have hit2:=Lib.iterAt_heap wr w.heap.size s pos (pos+K) hit
   have hbw2:=Lib.below_iterAt hbw (k:=w.heap.size) (aT4 _) s (pos+K)
   obtain⟨W,hWd⟩: ∃W,wr.iterAt w.heap.size s (pos+K)=W:=⟨_,rfl⟩
   rw[hWd]at hnx hit2 hbw2
   have cS:=hp W R (lz.below hG (aT4 _) hbw2)
   clear hp
   have hlt:w.heap.size<W.heap.size:=(Array.getElem?_eq_some_iff.1 hit2).1
   cases hsp:bad R<;>rw[hsp]at cS<;>simp only[hsp,if_true,aU6,if_false]at hleft
   ·go_wp2_with (refine cS.mono ?_; rintro e W' ⟨rfl,q⟩)
    go_roundg g'
    case measure=>omega
    case rel=>exact⟨pos+K,(q.block _ hlt).trans hit2,hbw2.trans (q.mono (by omega)),hleft,by omega⟩
   ·go_wp2_with (refine cS.mono ?_; rintro e W' ⟨rfl,q⟩)
    go_ret
    exact⟨by rw[←hleft]<;>rfl,hbw2.trans (q.mono (by omega))⟩
  ·have hnx: ∀ty,(Instr.next (.pointer (some ⟨w.heap.size,0,none⟩)) true ty).run aS9 wr= _:=fun ty=>Lib.run_next_end_at wr w.heap.size s pos ty hit hps
   rw[LP s gk pos hps]at hleft
   go_wp2
   go_ret
   exact⟨by rw[←hleft]<;>rfl,hbw⟩
theorem ae2 (s:List UInt8):Pure aS9 385 [.str s,.fn 320 [],.bool true] (.int .i64 (yD s)):=by
 refine zd fun m ak hG hv=> ?_
 simp only[aM,aK]at hv
 obtain⟨_,_,rfl,⟨rfl,_⟩,_,_,rfl,⟨l,rfl,rfl⟩,_,_,rfl,rfl,rfl⟩:=hv
 have e:qm 320 []= .func (.func 320) #[] #[]:=uG (by decide) []
 rw[e]
 refine (aH5 ⟨⟨s⟩⟩ m.w hG).mono ?_
 rintro e w' ⟨rfl,hb⟩
 exact⟨_,rfl,fun m'=>by simp only[aK]; rfl,hb⟩
theorem ae0 (s:List UInt8):Pure aS9 354 [.str s,.fn 320 []] (.int .i64 (yD s)):=by
 refine pure_intro bk Tryz.func354 Hu fun H=> ?_
 unfold Dk Fl
 simp only[kR,initFrom]
 repeat' first|refine e3.g ?_|(intro b hb;repeat first|(refine mH hb ?_;intro _ _ hb)|(refine mG hb ?_;intro hb))|refine rt ?_|refine l7 rfl ?_|refine gR rfl ?_|apply lI rfl|apply lH rfl|(apply bh.mJ;rfl)|(apply bh.mI;rfl)|intro h
 (apply bh.vy (ae2 _); (·simp only[go_sem,bd1,bd2]<;>rfl); (·exact dD.refl _))
 repeat' first|refine e3.g ?_|(intro b hb;repeat first|(refine mH hb ?_;intro _ _ hb)|(refine mG hb ?_;intro hb))|refine rt ?_|refine l7 rfl ?_|refine gR rfl ?_|apply lI rfl|apply lH rfl|(apply bh.mJ;rfl)|(apply bh.mI;rfl)|intro h
 refine lZ.g ?_
 exact cR.refl _
theorem ad5 (s:List UInt8):Pure aS9 293 [.str s,.fn 320 []] (.bool (!(s.all ev))):=by
 refine pure_intro bk Tryz.func293 Hs fun H=> ?_
 unfold Di Fj
 simp only[kR,initFrom]
 repeat' first|refine e3.g ?_|(intro b hb;repeat first|(refine mH hb ?_;intro _ _ hb)|(refine mG hb ?_;intro hb))|refine rt ?_|refine l7 rfl ?_|refine gR rfl ?_|apply lI rfl|apply lH rfl|(apply bh.mJ;rfl)|(apply bh.mI;rfl)|intro h
 (apply bh.vy (ae0 _); (·simp only[go_sem,bd1,bd2]<;>rfl); (·exact dD.refl _))
 repeat' first|refine e3.g ?_|(intro b hb;repeat first|(refine mH hb ?_;intro _ _ hb)|(refine mG hb ?_;intro hb))|refine rt ?_|refine l7 rfl ?_|refine gR rfl ?_|apply lI rfl|apply lH rfl|(apply bh.mJ;rfl)|(apply bh.mI;rfl)|intro h
 refine lZ.g ?_
 rw[LO]
 exact cR.refl _
end
end Go.aX.T.N
