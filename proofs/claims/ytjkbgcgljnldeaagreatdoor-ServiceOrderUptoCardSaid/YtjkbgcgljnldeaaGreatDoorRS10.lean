/- Part of a proof; own work. -/
import Derived.Below
import Derived.Lib.OthersKept
import Derived.Deep.LoopGhost
import Derived.Laws.RangeAny
import Derived.Test.YtjkbgcgljnldeaaGreatDoorRS9
set_option linter.unusedVariables false
set_option linter.unusedSimpArgs false
namespace Go.bc.T.N
open Go Go.bc Go.Proofs Go.RowKit
set_option maxRecDepth 100000
attribute [local irreducible] Go.bc.bf Go.bc.aA.ch Go.bc.aA.cA
attribute [local go_sem] bU aK.aJ Env.get qn sG tP nA I.cells I.eo gx kP I.one I.iB gM oe j5 cond_true cond_false beq_self_eq_true Bool.not_true Bool.not_false beq_true beq_false eq_self if_true Option.some.injEq List.length_cons List.length_nil List.take_succ_cons List.take_zero List.drop_succ_cons List.drop_zero List.set_cons_succ List.set_cons_zero List.nil_append List.cons_append List.append_nil and_self Option.map_some List.map_cons List.map_nil Bool.false_eq_true if_false Nat.zero_add Nat.add_zero true_and and_true Bool.and_true Bool.true_and List.getElem?_cons_zero List.getElem?_cons_succ Nat.zero_le Nat.le_refl
section
theorem bf.aF9 {P:Program}{d len size:Nat}{l:List bP}{env:Env}{H:aA}{K:Env→aA→Prop}{Rp:I→aA→Prop}{x:aK}{b:Nat}{T:TypeId}{cs:List I}{rows:List (List I)}(hf:rows.flatten=cs) (ag: ∀r∈rows,r.length=size) (hl:rows.length=len) (h0:0<len) (hm:len≤maxLen) (hx:x.aJ env= .ptr b 0) (hb:H.aU b=some (T,cs)) (h:bf P l ((d,.ay size rows)::env) (H.oP b) K Rp):bf P (⟨some d,none,.xP len size x⟩::l) env H K Rp:=by
 simp only[bf,wanted]
 exact ie.xQ hx hb hf ag hl h0 hm h
theorem ae7:(r2.map cj).flatten=r2.map .str:=rfl
theorem ZV {H:aA}{b:Nat}{mi T2:TypeId}{c1 c2:List I}(hb:H.aU b=none):HSub H (((H.ch b mi c1).ch b T2 c2).oP b):=
 ⟨fun x y h=>by
  simp only[aA.ch,aA.oP]
  by_cases e:x=b
  ·subst e; rw[hb]at h; cases h
  ·rw[if_neg e,if_neg e,if_neg e]; exact h,fun _ _ h=>by simpa [aA.ch,aA.oP] using h⟩
theorem qV (s:List UInt8):Pure Tryz.prog 45 [.str s] (.bool (db s)):=by
 have h101:=ar9 s
 have h102:=as0 r2 s (by decide)
 unfold db
 cases hn:mx s
 all_goals
  rw[hn]at h101
  refine pure_intro bN Tryz.func45 Vk fun H=> ?_
  unfold J3 QL
  simp only[mw,initFrom]
  refine cx.seq ?_
  refine fK.go .rg ?_
  refine bf.p (v:= .bool false) rfl ?_
  refine fK.go .kQ ?_
  refine cx.seq ?_
  refine fK.go .rg ?_
  refine bf.p (v:= .agg (r2.map .str)) (by kernel_rfl) ?_
  refine fK.go (.Al (by decide)) ?_
  intro b hb
  refine fK.go (.RQ (new:=r2.map .str) (o:=0) rfl DQ rfl rfl (by decide) (by decide) rfl rfl) ?_
  refine fK.go .kQ ?_
 ·repeat' first|refine fK.g ?_|(intro b hb;repeat first|(refine ii hb ?_;intro _ _ hb)|(refine qw hb ?_;intro hb))|refine rt ?_|refine qy rfl ?_|refine qz rfl ?_|apply oN rfl|apply oM rfl|(apply bf.qB;rfl)|(apply bf.qA;rfl)|intro h
  (apply bf.zv (h101); (·simp only[go_sem,Nat.reduceBEq,Nat.reduceAdd]<;>rfl); (·exact e7.refl _))
  repeat' first|refine fK.g ?_|(intro b hb;repeat first|(refine ii hb ?_;intro _ _ hb)|(refine qw hb ?_;intro hb))|refine rt ?_|refine qy rfl ?_|refine qz rfl ?_|apply oN rfl|apply oM rfl|(apply bf.qB;rfl)|(apply bf.qA;rfl)|intro h
  refine n2.g ?_
  exact eI.refl _
 ·repeat' first|refine fK.g ?_|(intro b hb;repeat first|(refine ii hb ?_;intro _ _ hb)|(refine qw hb ?_;intro hb))|refine rt ?_|refine qy rfl ?_|refine qz rfl ?_|apply oN rfl|apply oM rfl|(apply bf.qB;rfl)|(apply bf.qA;rfl)|intro h
  (apply bf.zv (h101); (·simp only[go_sem,Nat.reduceBEq,Nat.reduceAdd]<;>rfl); (·exact e7.refl _))
  repeat' first|refine fK.g ?_|(intro b hb;repeat first|(refine ii hb ?_;intro _ _ hb)|(refine qw hb ?_;intro hb))|refine rt ?_|refine qy rfl ?_|refine qz rfl ?_|apply oN rfl|apply oM rfl|(apply bf.qB;rfl)|(apply bf.qA;rfl)|intro h
  (apply bf.aF9 (rows:=r2.map cj) ae7 (by intro r ag; obtain⟨_,_,rfl⟩:=List.mem_map.1 ag; rfl) rfl (by decide) (by decide); (·rfl); (·exact DQ))
  repeat' first|refine fK.g ?_|(intro b hb;repeat first|(refine ii hb ?_;intro _ _ hb)|(refine qw hb ?_;intro hb))|refine rt ?_|refine qy rfl ?_|refine qz rfl ?_|apply oN rfl|apply oM rfl|(apply bf.qB;rfl)|(apply bf.qA;rfl)|intro h
  (apply bf.zv (h102); (·simp only[go_sem,Nat.reduceBEq,Nat.reduceAdd]<;>rfl); (·exact e7.refl _))
  repeat' first|refine fK.g ?_|(intro b hb;repeat first|(refine ii hb ?_;intro _ _ hb)|(refine qw hb ?_;intro hb))|refine rt ?_|refine qy rfl ?_|refine qz rfl ?_|apply oN rfl|apply oM rfl|(apply bf.qB;rfl)|(apply bf.qA;rfl)|intro h
  refine cx.forget H (ZV hb) ?_
  refine n2.g ?_
  exact eI.refl _
end
section
theorem V3 {P:Program}{f:FuncId}{args:List I}{r:I}(h:Pure P f args r) (w:World) (ay:List Value) (aP: ∀m,aS m args ay) (hG:nv w):
  Calls P f ⟨ay⟩ w fun e w'=>(∃v,e= .returned v∧∃m:Mem,aR m r v)∧Below w.heap.size w w':=by
 have:=h aA.none ⟨w,aA.none,fun _=> .nilFunc,0⟩ ay rfl ⟨fun b T cs hb=>by simp [aA.none]at hb,fun t i ai=>by simp [aA.none]at ai,hG,fun p hp=>⟨rfl,fun t i ai=>by simp [aA.none]at ai⟩⟩ (aP _)
 refine this.mono fun e w' ⟨o,H',L',T',g1,g2,g3,g4,g5⟩=> ?_
 subst g4
 simp only[rl]at g3
 obtain⟨v,e1,e2⟩:=g3
 exact⟨⟨v,e1,_,e2⟩,⟨g2.os,g2.tape,g2.output,g2.size,fun b hb=>(g2.block b hb rfl (fun t i ai=>by simp [aA.none]at ai)).1⟩⟩
def bad (n:Nat):Bool:=decide ((n:Int)<32)||decide ((126:Int)<n)
theorem al5 (n:Nat):Pure Tryz.prog 162 [.int .i32 (n:Int)] (.bool (bad n)):=by
 refine pure_intro bN Tryz.func162 UJ fun H=> ?_
 unfold Jx Qa
 simp only[mw,initFrom]
 repeat' first|refine fK.g ?_|(intro b hb;repeat first|(refine ii hb ?_;intro _ _ hb)|(refine qw hb ?_;intro hb))|refine rt ?_|refine qy rfl ?_|refine qz rfl ?_|apply oN rfl|apply oM rfl|(apply bf.qB;rfl)|(apply bf.qA;rfl)|intro h
 all_goals (refine n2.g ?_)
 all_goals (refine Tk ?_; rw[I.bool.injEq,Bool.eq_iff_iff]; simp [bad]at*; try omega)
def idxFrom (s:ByteArray):Nat→Nat→Int
 |0,_=> -1
 |f+1,pos=>if pos<s.size then (if bad (Utf8.decode s pos).1 then (pos:Int) else idxFrom s f (pos+(Utf8.decode s pos).2)) else-1
theorem aa6 (s:ByteArray) (f pos:Nat) (h: ¬pos<s.size):idxFrom s f pos= -1:=by cases f<;>simp [idxFrom,h]
theorem aM7 (s:ByteArray) (pos:Nat) (h:pos<s.size):1≤(Utf8.decode s pos).2:=by
 by_cases aP:(s[pos]'h).toNat<128
 ·rw[decode_ascii s pos h aP]; exact Nat.le_refl _
 ·exact (decode_high s pos h (by omega)).2
open Go.Lib in
set_option maxHeartbeats 2000000 in
theorem aM2 (s:ByteArray) (w:World) (hG:nv w):Calls Tryz.prog 210 #[.string s,.func (.func 162) #[] #[],.bool true] w fun e w'=>e= .returned (.int .i64 (idxFrom s s.size 0))∧Below w.heap.size w w':=by
 have hp: ∀(W:World) (r:Nat),nv W→Calls Tryz.prog 162 #[.int .i32 (r:Int)] W fun e w'=>e= .returned (.bool (bad r))∧Below W.heap.size W w':=by
  intro W r hGW
  refine (V3 (hG:=hGW) (al5 r) W [.int .i32 (r:Int)] (fun m=>by simp only[aS,aR]; exact⟨_,_,rfl,rfl,rfl⟩)).mono ?_
  rintro e w' ⟨⟨v,rfl,m,hv⟩,hb⟩
  simp only[aR]at hv
  subst hv
  exact⟨rfl,hb⟩
 go_enter Tryz.func210,Tryz.ntmps210
 go_wp2
 go_loopg [] s.size (fun gf wx=> ∃pos:Nat,wx.heap[w.heap.size]? =some (.stringIter s pos)∧Below w.heap.size w wx∧idxFrom s gf pos=idxFrom s s.size 0∧s.size≤pos+gf)
 case atStart=>exact⟨0,World.iter_heap w s 0,(Below.refl _ w).alloc (Nat.le_refl _) _,rfl,by omega⟩
 case round=>
  obtain⟨pos,hit,hbw,hleft,hfu⟩:=hrel
  by_cases hps:pos<s.size
  ·obtain⟨g',rfl⟩: ∃g',gk=g'+1:=⟨gk-1,by omega⟩
   have hnx: ∀ty,(Instr.next (.pointer (some ⟨w.heap.size,0,none⟩)) true ty).run Tryz.prog wr= _:=fun ty=>Lib.run_next_any_at wr w.heap.size s pos ty hit hps
   have hwd:=aM7 s pos hps
   obtain⟨R,hR⟩: ∃R,(Utf8.decode s pos).1=R:=⟨_,rfl⟩
   obtain⟨K,hK⟩: ∃K,(Utf8.decode s pos).2=K:=⟨_,rfl⟩
   simp only[idxFrom,hps,if_true,hR,hK]at hleft
   rw[hR,hK]at hnx
   rw[hK]at hwd
   have hit2:=Lib.iterAt_heap wr w.heap.size s pos (pos+K) hit
   have hbw2:=Lib.below_iterAt hbw (k:=w.heap.size) (Nat.le_refl _) s (pos+K)
   obtain⟨W,hWd⟩: ∃W,wr.iterAt w.heap.size s (pos+K)=W:=⟨_,rfl⟩
   rw[hWd]at hnx hit2 hbw2
   have cS:=hp W R (nv.below hG (Nat.le_refl _) hbw2)
   clear hp
   have hlt:w.heap.size<W.heap.size:=(Array.getElem?_eq_some_iff.1 hit2).1
   cases hsp:bad R<;>rw[hsp]at cS<;>simp only[hsp,if_true,Bool.false_eq_true,if_false]at hleft
   ·go_wp2_with (refine cS.mono ?_; rintro e W' ⟨rfl,q⟩)
    go_roundg g'
    case measure=>omega
    case rel=>exact⟨pos+K,(q.block _ hlt).trans hit2,hbw2.trans (q.mono (by omega)),hleft,by omega⟩
   ·go_wp2_with (refine cS.mono ?_; rintro e W' ⟨rfl,q⟩)
    go_ret
    exact⟨by rw[←hleft]<;>rfl,hbw2.trans (q.mono (by omega))⟩
  ·have hnx: ∀ty,(Instr.next (.pointer (some ⟨w.heap.size,0,none⟩)) true ty).run Tryz.prog wr= _:=fun ty=>Lib.run_next_end_at wr w.heap.size s pos ty hit hps
   rw[aa6 s gk pos hps]at hleft
   go_wp2
   go_ret
   exact⟨by rw[←hleft]<;>rfl,hbw⟩
def eo (b:UInt8):Bool:=decide (32≤b.toNat)&&decide (b.toNat≤126)
theorem Ml (cH:ByteArray): ∀(f pos:Nat),cH.size≤pos+f→decide (0≤idxFrom cH f pos)= !((cH.data.toList.drop pos).all eo)
 |0,pos,h=>by
  have:cH.data.toList.drop pos=[]:=List.drop_eq_nil_of_le (by rw[Array.length_toList]; exact (by omega:cH.size≤pos))
  simp [idxFrom,this]
 |f+1,pos,h=>by
  by_cases hp:pos<cH.size
  ·have hd:cH.data.toList.drop pos=cH[pos]::cH.data.toList.drop (pos+1):=by
    rw[List.drop_eq_getElem_cons (by rw[Array.length_toList]; exact hp)]
    rfl
   simp only[idxFrom,hp,if_true,hd,List.all_cons]
   by_cases aP:(cH[pos]'hp).toNat<128
   ·rw[decode_ascii cH pos hp aP]
    have ih:=Ml cH f (pos+1) (by omega)
    by_cases hb:eo cH[pos]=true
    ·have:bad (cH[pos]).toNat=false:=by simp [eo]at hb; simp [bad]; omega
     simp only[this,hb,Bool.true_and,Bool.false_eq_true,if_false]
     exact ih
    ·have:bad (cH[pos]).toNat=true:=by simp [eo]at hb; simp [bad]; omega
     have hb':eo cH[pos]=false:=by simpa using hb
     simp [this,hb']
   ·have hh:=(decode_high cH pos hp (by omega)).1
    have:bad (Utf8.decode cH pos).1=true:=by simp [bad]; omega
    have hb':eo cH[pos]=false:=by simp [eo]; omega
    simp [this,hb']
  ·have:cH.data.toList.drop pos=[]:=List.drop_eq_nil_of_le (by rw[Array.length_toList]; exact (by omega:cH.size≤pos))
   simp [idxFrom,hp,this]
def ED (s:List UInt8):Int:=idxFrom ⟨⟨s⟩⟩ s.length 0
theorem aa5 (s:List UInt8):decide (0≤ED s)= !(s.all eo):=by
 have:=Ml ⟨⟨s⟩⟩ s.length 0 (by show s.length≤0+s.length; omega)
 exact this
theorem al9 (s:List UInt8):Pure Tryz.prog 210 [.str s,.fn 162 [],.bool true] (.int .i64 (ED s)):=by
 refine uH fun m ay hG hv=> ?_
 simp only[aS,aR]at hv
 obtain⟨_,_,rfl,⟨rfl,_⟩,_,_,rfl,⟨l,rfl,rfl⟩,_,_,rfl,rfl,rfl⟩:=hv
 have e:rI 162 []= .func (.func 162) #[] #[]:=wU (by decide) []
 rw[e]
 refine (aM2 ⟨⟨s⟩⟩ m.w hG).mono ?_
 rintro e w' ⟨rfl,hb⟩
 exact⟨_,rfl,fun m'=>by simp only[aR]; rfl,hb⟩
theorem al8 (s:List UInt8):Pure Tryz.prog 193 [.str s,.fn 162 []] (.int .i64 (ED s)):=by
 refine pure_intro bN Tryz.func193 U5 fun H=> ?_
 unfold JR Qw
 simp only[mw,initFrom]
 repeat' first|refine fK.g ?_|(intro b hb;repeat first|(refine ii hb ?_;intro _ _ hb)|(refine qw hb ?_;intro hb))|refine rt ?_|refine qy rfl ?_|refine qz rfl ?_|apply oN rfl|apply oM rfl|(apply bf.qB;rfl)|(apply bf.qA;rfl)|intro h
 (apply bf.zv (al9 _); (·simp only[go_sem,Nat.reduceBEq,Nat.reduceAdd]<;>rfl); (·exact e7.refl _))
 repeat' first|refine fK.g ?_|(intro b hb;repeat first|(refine ii hb ?_;intro _ _ hb)|(refine qw hb ?_;intro hb))|refine rt ?_|refine qy rfl ?_|refine qz rfl ?_|apply oN rfl|apply oM rfl|(apply bf.qB;rfl)|(apply bf.qA;rfl)|intro h
 refine n2.g ?_
 exact eI.refl _
theorem al4 (s:List UInt8):Pure Tryz.prog 161 [.str s,.fn 162 []] (.bool (!(s.all eo))):=by
 refine pure_intro bN Tryz.func161 UI fun H=> ?_
 unfold Jw P9
 simp only[mw,initFrom]
 repeat' first|refine fK.g ?_|(intro b hb;repeat first|(refine ii hb ?_;intro _ _ hb)|(refine qw hb ?_;intro hb))|refine rt ?_|refine qy rfl ?_|refine qz rfl ?_|apply oN rfl|apply oM rfl|(apply bf.qB;rfl)|(apply bf.qA;rfl)|intro h
 (apply bf.zv (al8 _); (·simp only[go_sem,Nat.reduceBEq,Nat.reduceAdd]<;>rfl); (·exact e7.refl _))
 repeat' first|refine fK.g ?_|(intro b hb;repeat first|(refine ii hb ?_;intro _ _ hb)|(refine qw hb ?_;intro hb))|refine rt ?_|refine qy rfl ?_|refine qz rfl ?_|apply oN rfl|apply oM rfl|(apply bf.qB;rfl)|(apply bf.qA;rfl)|intro h
 refine n2.g ?_
 rw[aa5]
 exact eI.refl _
end
end Go.bc.T.N
