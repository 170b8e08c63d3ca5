/- The layer of abstract runs, part 26. -/
import Derived.Test.YtnojpbbaohoadaaGreatDoorKobY
import Derived.KernelRfl
set_option linter.unusedSimpArgs false
set_option linter.unusedVariables false
set_option linter.all false
set_option maxHeartbeats 4000000
namespace Go.AI
open Go.Proofs
set_option maxRecDepth 20000
abbrev zjA (l:List Edg):Ob:=.arr 129 3 l.length (l.map edgI) true
theorem zpr (l:List Edg) (e:Edg):Ob.arr 129 3 (l.length+1) (l.map edgI++[edgI e]) true=zjA (l++[e]):=by simp
theorem zpm (l:List Sta) (s:Sta):Ob.arr 68 2 (l.length+1) (l.map staI++[staI s]) true=zrq (l++[s]):=by simp
abbrev keq (a b:Sta):Bool:=fkey a==fkey b
def unfX (m:Ext) (alpha:List Int) (first:Sta):Except Int (Unf Sta):=unfR keq true (stpR m) (fun s=>decide (s.loc∈m.marked)) alpha first
def kidx:List Sta→Nat→List (Value × Int)
 | [],_=>[]
 | s::r,i=>(.string (fkey s),(i:Int))::kidx r (i+1)
theorem zjO (b:ByteArray):∀ (l:List Sta) (i:Nat),zdF (kidx l i) (.string b)=if l.findIdx (fun t=>b==fkey t)<l.length then some (((i+l.findIdx fun t=>b==fkey t:Nat):Int)) else none
 | [],i=>by simp[kidx,zdF]
 | s::r,i=>by
  simp only[kidx,zdF,keyB,List.findIdx_cons]
  cases h:b==fkey s with
  | true=>simp
  | false=>
   simp only[cond_false]
   rw[zjO b r (i+1)]
   have e:i+1+r.findIdx (fun t=>b==fkey t)=i+(r.findIdx (fun t=>b==fkey t)+1):=by omega
   simp only[e,List.length_cons,Nat.add_lt_add_iff_right]
theorem znc {s:Sta}:∀ (l:List Sta) (i:Nat),¬ l.findIdx (keq s)<l.length→mset (kidx l i) (.string (fkey s)) ((i+l.length:Nat):Int)=kidx (l++[s]) i
 | [],i,_=>by simp[kidx,mset]
 | t::r,i,h=>by
  rw[List.findIdx_cons] at h
  cases hk:keq s t with
  | true=>rw[hk] at h;simp at h
  | false=>
   rw[hk] at h
   simp only[cond_false,List.length_cons,Nat.add_lt_add_iff_right] at h
   have hk':(fkey s==fkey t)=false:=hk
   simp only[List.cons_append,kidx,mset,keyB,hk',cond_false]
   have e:i+(t::r).length=(i+1)+r.length:=by simp only[List.length_cons];omega
   rw[e,znc r (i+1) h]
theorem zv5 {m:Ext} {s:Sta} {ev:Int} (hr:extRight m) (h:okS m s) (hp:(stpR m s ev).2.1=true):okS m (stpR m s ev).1:=by
 unfold stpR at hp ⊢
 split at hp
 ·cases hp
 rename_i h1
 rw[if_neg h1]
 split at hp
 ·cases hp
 rename_i h2
 rw[if_neg h2]
 exact zv6 hr h hp
theorem zrx {m:Ext} {s:Sta} (hr:extRight m) (h:okS m s):keyOkJ s:=by
 have:=zpq hr h
 exact⟨this.1,by omega,this.2.1⟩
theorem zkx {σ:Type} {eq:σ→σ→Bool} {lim:Bool} {step:σ→Int→σ × Bool × Int} {mkd:σ→Bool} {alpha:List Int} {U:Unf σ} {i:Nat} (h:U.sts.length≤i):∀ k,zeL eq lim step mkd alpha k i U = .ok U
 | 0=>rfl
 | k+1=>by simp only[zeL,List.getElem?_eq_none h]
structure UGood (m:Ext) (U:Unf Sta):Prop where
 len:U.sts.length≤4096
 ok:∀ s∈U.sts,okS m s
abbrev fnS (d nm:Nat):D:=.fn (.func 82) [] [.own d nm 0 0]
abbrev fnM (d nm:Nat):D:=.fn (.func 84) [] [.own d nm 0 0]
def unfD (alpha:List Int):Except Int (Unf Sta)→D
 | .error e=>.tup [autD ⟨[],0,[],[]⟩,zjk [],ii e]
 | .ok U=>.tup [autD ⟨alpha,U.sts.length,U.mkl,U.eds⟩,zjk U.sts,ii 0]
theorem zxr {e:Int}:CoD (.tup [.agg [.i (.v (.slice none 0 0)),ii 0,.i (.v (.slice none 0 0)),.i (.v (.slice none 0 0))],.i (.v (.slice none 0 0)),ii e]) (unfD [] (.error e)):=
 zbE (.cons (zby (.cons (zco zbb) (.cons (CoD.refl _) (.cons (zco zbb) (.cons (zco zbb) .nil))))) (.cons (zco zbb) (CoDL.refl _)))
theorem zqI {g:Nat} (hg:zfA g) {ty:TypeId} {fr:Nat × Nat} (O:List Heap) (m:Ext) (alpha:List Int) (first:Sta) (d nm:Nat) (ho:zab O d nm=some (.box (extC m))) (hok:extOk m) (hr:extRight m) (ha:alpha.length≤4096) (hf:okS m first) :
  zbg g (ptab ty fr) Tryz.prog 85 [ints alpha,staD first,.fn (.func 80) [] [],fnS d nm,fnM d nm] O (unfD alpha (unfX m alpha first)) [] O:=by
 have hO:∀ H,zab (H::O) (d+1) nm=some (.box (extC m)):=fun H=>zav ho
 have hno:unfX m alpha first=zeL keq true (stpR m) (fun s=>decide (s.loc∈m.marked)) alpha (4097 - 0) 0 (unf0 first):=rfl
 generalize unfX m alpha first=R at *
 have hkf:=zrx hr hf
 refine za4 [9,23] Tk Tryz.func85 rfl Tryz.call85 Tryz.ntmps85 (Nat.le_of_ble_eq_true rfl) fun E hE=>?_
 refine zag Tk Tryz.func85 ?_
 refine zbr Tk Tryz.func85 hE (zfo hg _ first hkf) rfl rfl rfl rfl rfl rfl ?_
 refine zae ?_
 refine zas (zvn 25 95 rfl rfl rfl) ?_
 refine zas (zay 10 47 3 1 (pre:=[ints alpha,ii 0]) (post:=[.i (.v (.slice none 0 0))]) rfl rfl rfl) ?_
 refine zas (zay 10 103 129 3 (pre:=[ints alpha,ii 0,.osl 0 47]) (post:=[]) rfl rfl rfl) ?_
 refine zaj (fun x:Nat × Unf Sta=>[(0,ints alpha),(2,.fn (.func 80) [] []),(3,fnS (d+1) nm),(4,fnM (d+1) nm),(10,.own 0 10 0 0),(11,.osl 0 95),(13,.osl 0 26),(14,ii x.1)])
  (fun x=>[(10,.box [ints alpha,ii 0,.osl 0 47,.osl 0 103]),(95,zrq x.2.sts),(47,zbV x.2.mkl),(103,zjA x.2.eds),(26,.mp .str (.i .i64 (kidx x.2.sts 0)))]) (fun _=>O) 111
  (fun x=>x.1≤x.2.sts.length∧UGood m x.2∧x.2.mkl.length≤x.1∧x.2.eds.length≤4096 * x.1∧R=zeL keq true (stpR m) (fun s=>decide (s.loc∈m.marked)) alpha (4097 - x.1) x.1 x.2) (fun x=>4097 - x.1) (0,unf0 first)
  ⟨Nat.zero_le _,⟨by simp[unf0],fun s hs=>by rw[unf0,List.mem_singleton] at hs;subst hs;exact hf⟩,Nat.le_refl _,Nat.le_refl _,hno⟩ ⟨rfl,rfl,rfl,rfl,rfl,rfl,rfl,rfl,trivial⟩ rfl ⟨rfl,rfl,rfl,rfl,rfl,trivial⟩ rfl rfl ?_
 clear hno
 rintro ⟨i,U⟩ ⟨hi,hgd,hml,hel,hno⟩ ih
 simp only at hi hgd hml hel hno
 refine zag Tk Tryz.func85 ?_
 refine zai Tk Tryz.func85 rfl (fun g1=>?_) (fun g1=>?_)
 ·have h1:i<U.sts.length:=by simpa using g1
  clear g1
  have hle:=hgd.len
  have hsi:U.sts[i]? = some U.sts[i]:=List.getElem?_eq_getElem h1
  have gs:(U.sts.map staI)[(i:Int).toNat]? = some (staI U.sts[i]):=zam h1
  have hoks:=hgd.ok _ (List.getElem_mem h1)
  generalize U.sts[i]=s at *
  have hno:R=match zbl keq true (stpR m) i s alpha (zeK (fun s=>decide (s.loc∈m.marked)) i s U) with
    | .error e=>.error e
    | .ok U'=>zeL keq true (stpR m) (fun s=>decide (s.loc∈m.marked)) alpha (4097 - (i+1)) (i+1) U':=by
   rw[hno,show 4097 - i=(4097 - (i+1))+1 by omega]
   simp only[zeL,hsi]
   cases zbl keq true (stpR m) i s alpha (zeK (fun s=>decide (s.loc∈m.marked)) i s U) <;> rfl
  have hmk:=fun H=>zpz (H::O) m s (d+1) nm (hO H) hok
  obtain⟨m1,m2⟩:=zgj (fun s:Sta=>decide (s.loc∈m.marked)) i s U
  have hm3:(zeK (fun s:Sta=>decide (s.loc∈m.marked)) i s U).mkl=if s.loc∈m.marked then U.mkl++[(i:Int)] else U.mkl:=by
   unfold zeK
   by_cases h:s.loc∈m.marked <;> simp[h]
  generalize zeK (fun s:Sta=>decide (s.loc∈m.marked)) i s U=U1 at *
  obtain⟨sts,mkl,eds⟩:=U
  obtain⟨sts1,mkl1,eds1⟩:=U1
  simp only at *
  subst m1 m2
  obtain⟨sl,sv⟩:=s
  simp only at *
  refine zaf Tk Tryz.func85 (by exact⟨by omega,by show (i:Int)<(sts1.length:Int);omega⟩) ?_
  refine zaq Tk Tryz.func85 (gs) ?_
  refine zak Tk Tryz.func85 (hmk _) rfl rfl rfl rfl rfl ?_
  apply zch (P:=True) (s6:={ σ:=[(0,ints alpha),(2,.fn (.func 80) [] []),(3,fnS (d+1) nm),(4,fnM (d+1) nm),(10,.own 0 10 0 0),(11,.osl 0 95),(13,.osl 0 26),(14,ii i)],S:=[(10,.box [ints alpha,ii 0,.osl 0 47,.osl 0 103]),(95,zrq sts1),(47,zbV mkl1),(103,zjA eds1),(26,.mp .str (.i .i64 (kidx sts1 0)))]::O,n:=111 })
  ·intro J
   refine zai Tk Tryz.func85 rfl (fun c1=>?_) (fun c1=>?_)
   ·have c1:sl∈m.marked:=of_decide_eq_true c1
    rw[if_pos c1] at hm3
    subst hm3
    refine zaf Tk Tryz.func85 (by exact⟨by show (mkl.length+1) * 8≤140737488355328;omega,by show mkl.length+1≤9223372036854775807;omega⟩) ?_
    refine zax ?_
    refine zaI (J trivial) ⟨rfl,rfl,rfl,rfl,rfl,rfl,rfl,rfl,trivial⟩ rfl ⟨rfl,rfl,congrArg some (zcz mkl (i:Int)),rfl,rfl,trivial⟩ rfl rfl
   ·have c1:sl ∉ m.marked:=of_decide_eq_false c1
    rw[if_neg c1] at hm3
    subst hm3
    refine zax ?_
    refine zaI (J trivial) ⟨rfl,rfl,rfl,rfl,rfl,rfl,rfl,rfl,trivial⟩ rfl ⟨rfl,rfl,rfl,rfl,rfl,trivial⟩ rfl rfl
  intro _
  have hml1:mkl1.length≤i+1:=by rw[hm3];split;(rw[List.length_append,List.length_singleton];omega);omega
  clear hm3 hml hmk gs
  have hV0:zbl keq true (stpR m) i ⟨sl,sv⟩ alpha ⟨sts1,mkl1,eds1⟩=zbl keq true (stpR m) i ⟨sl,sv⟩ (alpha.drop 0) ⟨sts1,mkl1,eds1⟩:=rfl
  generalize zbl keq true (stpR m) i ⟨sl,sv⟩ alpha ⟨sts1,mkl1,eds1⟩=V at *
  refine zag Tk Tryz.func85 ?_
  refine g_go Tk Tryz.func85 ?_
  refine zae ?_
  refine zaj (fun x:Nat × Unf Sta=>[(0,ints alpha),(2,.fn (.func 80) [] []),(3,fnS (d+1) nm),(4,fnM (d+1) nm),(10,.own 0 10 0 0),(11,.osl 0 95),(13,.osl 0 26),(14,ii i),(49,ints alpha),(50,ii alpha.length),(51,ii x.1)])
   (fun x=>[(10,.box [ints alpha,ii 0,.osl 0 47,.osl 0 103]),(95,zrq x.2.sts),(47,zbV x.2.mkl),(103,zjA x.2.eds),(26,.mp .str (.i .i64 (kidx x.2.sts 0)))]) (fun _=>O) 111
   (fun x=>x.1≤alpha.length∧UGood m x.2∧i<x.2.sts.length∧x.2.mkl.length≤i+1∧x.2.eds.length≤4096 * i+x.1∧x.2.sts[i]? = some ⟨sl,sv⟩∧V=zbl keq true (stpR m) i ⟨sl,sv⟩ (alpha.drop x.1) x.2) (fun x=>alpha.length - x.1) (0,⟨sts1,mkl1,eds1⟩)
   ⟨Nat.zero_le _,⟨hgd.len,hgd.ok⟩,h1,hml1,hel,hsi,hV0⟩ ⟨rfl,rfl,rfl,rfl,rfl,rfl,rfl,rfl,rfl,rfl,rfl,trivial⟩ rfl ⟨rfl,rfl,rfl,rfl,rfl,trivial⟩ rfl rfl ?_
  clear hV0 hsi hml1 hel hgd hle
  rintro ⟨j,⟨sts,mk,eds⟩⟩ ⟨hj,hgd,hil,hml,hel,hsi,hV⟩ ih2
  simp only at hj hgd hil hml hel hsi hV
  have hle:sts.length≤4096:=hgd.len
  refine zag Tk Tryz.func85 ?_
  refine zai Tk Tryz.func85 rfl (fun g2=>?_) (fun g2=>?_)
  ·have h3:j<alpha.length:=by simpa using g2
   clear g2
   have ga:(alpha.map fun x=>[vi x])[(j:Int).toNat]? = some [vi alpha[j]]:=zam (f:=fun x=>[vi x]) h3
   have da:alpha.drop j=alpha[j]::alpha.drop (j+1):=List.drop_eq_getElem_cons h3
   rw[da] at hV
   simp only[zbl] at hV
   clear da
   generalize alpha[j]=ev at *
   have gs:(sts.map staI)[(i:Int).toNat]? = some (staI ⟨sl,sv⟩):=by simp[hsi]
   have hst:=fun H=>zpy (H::O) m ⟨sl,sv⟩ ev (d+1) nm (hO H) hok
   have hokn:=@zv5 m ⟨sl,sv⟩ ev hr hoks
   have hj1:ii (IntKind.i64.wrap ((j:Int)+1))=ii ((j+1:Nat):Int):=congrArg ii (zaB (n:=4096) (by omega) (by decide))
   unfold zdr at hV
   generalize stpR m ⟨sl,sv⟩ ev=N at *
   obtain⟨⟨nl,nv⟩,np,ne⟩:=N
   simp only at hV hst hokn
   refine zaf Tk Tryz.func85 (by exact⟨by omega,by show (j:Int)<(alpha.length:Int);omega⟩) ?_
   refine zaq Tk Tryz.func85 (ga) ?_
   refine zaf Tk Tryz.func85 (by exact⟨by omega,by show (i:Int)<(sts.length:Int);omega⟩) ?_
   refine zaq Tk Tryz.func85 (gs) ?_
   refine zak Tk Tryz.func85 (hst _) rfl rfl rfl rfl rfl ?_
   refine zai Tk Tryz.func85 rfl (fun c1=>?_) (fun c1=>?_)
   ·have c1:ne≠0:=bneT c1
    rw[if_pos c1] at hV
    subst hV
    simp only at hno
    subst hno
    refine zaz Tk (r:=_) rfl rfl rfl trivial rfl rfl ?_
    exact zxr
   have c1:ne=0:=bneF c1
   rw[if_neg (by simpa using c1)] at hV
   refine zai Tk Tryz.func85 rfl (fun c2=>?_) (fun c2=>?_)
   ·have c2:np=false:=notT c2
    rw[if_pos c2] at hV
    refine zae ?_
    exact ih2 (j+1,⟨sts,mk,eds⟩) _ _ ⟨h3,hgd,hil,hml,by simp only;omega,hsi,hV⟩ (by simp only;omega) ⟨rfl,rfl,rfl,rfl,rfl,rfl,rfl,rfl,rfl,rfl,hj1,trivial⟩ rfl ⟨rfl,rfl,rfl,rfl,rfl,trivial⟩ rfl rfl
   have c2:np=true:=notF c2
   rw[if_neg (by rw[c2];simp)] at hV
   have hon:=hokn c2
   have hkn:=zrx hr hon
   have hlk:=zjO (fkey ⟨nl,nv⟩) sts 0
   have hks:=@znc ⟨nl,nv⟩ sts 0
   rw[Nat.zero_add] at hks
   rw[Nat.zero_add] at hlk
   have hix:sts.findIdx (keq ⟨nl,nv⟩)≤sts.length:=findIdx_le
   have hlk:zdF (kidx sts 0) (.string (fkey ⟨nl,nv⟩))=if sts.findIdx (keq ⟨nl,nv⟩)<sts.length then some ((sts.findIdx (keq ⟨nl,nv⟩):Nat):Int) else none:=hlk
   generalize sts.findIdx (keq ⟨nl,nv⟩)=t at *
   refine zbr Tk Tryz.func85 hE (zfo hg _ ⟨nl,nv⟩ hkn) rfl rfl rfl rfl rfl rfl ?_
   generalize hst2:(if t<sts.length then sts else sts++[(⟨nl,nv⟩:Sta)])=sts2
   apply zch (P:=t<sts.length∨sts.length≠4096) (s6:={ σ:=[(0,ints alpha),(2,.fn (.func 80) [] []),(3,fnS (d+1) nm),(4,fnM (d+1) nm),(10,.own 0 10 0 0),(11,.osl 0 95),(13,.osl 0 26),(14,ii i),(16,ii ev),(20,ii t),(49,ints alpha),(50,ii alpha.length),(51,ii j)],S:=[(10,.box [ints alpha,ii 0,.osl 0 47,.osl 0 103]),(95,zrq sts2),(47,zbV mk),(103,zjA eds),(26,.mp .str (.i .i64 (kidx sts2 0)))]::O,n:=111 })
   ·intro J
    refine zai Tk Tryz.func85 rfl (fun c3=>?_) (fun c3=>?_)
    ·have c3:mhas (kidx sts 0) (.string (fkey ⟨nl,nv⟩))=false:=notT c3
     have hlt:¬ t<sts.length:=fun h=>by
      unfold mhas at c3
      rw[hlk,if_pos h] at c3
      cases c3
     have hte:t=sts.length:=by omega
     rw[if_neg hlt] at hst2 hV
     have hks:=hks hlt
     refine zai Tk Tryz.func85 rfl (fun c4=>?_) (fun c4=>?_)
     ·have c4:((sts.length:Nat):Int)=4096:=beqT c4
      have c4:sts.length=4096:=by omega
      rw[if_pos ⟨trivial,c4⟩] at hV
      subst hV
      simp only at hno
      subst hno
      refine zaz Tk (r:=_) rfl rfl rfl trivial rfl rfl ?_
      exact zxr
     have c4:((sts.length:Nat):Int)≠4096:=beqF c4
     have c4:sts.length≠4096:=by omega
     refine zbr Tk Tryz.func85 hE (zfo hg _ ⟨nl,nv⟩ hkn) rfl rfl rfl rfl rfl rfl ?_
     refine zaf Tk Tryz.func85 (by exact⟨by show (sts.length+1) * 32≤140737488355328;omega,by show sts.length+1≤9223372036854775807;omega⟩) ?_
     subst hst2
     refine zax ?_
     refine zaI (J (.inr c4)) ⟨rfl,rfl,rfl,rfl,rfl,rfl,rfl,rfl,rfl,by rw[hte];rfl,rfl,rfl,rfl,trivial⟩ rfl ⟨rfl,congrArg some (zpm sts (⟨nl,nv⟩:Sta)),rfl,rfl,congrArg (fun l=>some (Ob.mp .str (.i .i64 l))) hks,trivial⟩ rfl rfl
    ·have c3:mhas (kidx sts 0) (.string (fkey ⟨nl,nv⟩))=true:=notF c3
     have hlt:t<sts.length:=Classical.byContradiction fun h=>by
      unfold mhas at c3
      rw[hlk,if_neg h] at c3
      cases c3
     rw[if_pos hlt] at hst2 hlk
     subst hst2
     refine zax ?_
     refine zaI (J (.inl hlt)) ⟨rfl,rfl,rfl,rfl,rfl,rfl,rfl,rfl,rfl,by show ii (zpu (kidx sts 0) (.string (fkey ⟨nl,nv⟩)))=_;unfold zpu;rw[hlk];rfl,rfl,rfl,rfl,trivial⟩ rfl ⟨rfl,rfl,rfl,rfl,rfl,trivial⟩ rfl rfl
   ·intro hP
    have hV:V=zbl keq true (stpR m) i ⟨sl,sv⟩ (alpha.drop (j+1)) ⟨sts2,mk,eds++[((i:Int),ev,(t:Int))]⟩:=by
     rw[hV]
     by_cases hlt:t<sts.length
     ·rw[if_pos hlt] at hst2 ⊢
      subst hst2
      rfl
     ·rw[if_neg hlt] at hst2 ⊢
      rw[if_neg (by rintro ⟨_,h⟩;rcases hP with h' | h';exact hlt h';exact h' h)]
      subst hst2
      rfl
    have hg2:UGood m ⟨sts2,mk,eds++[((i:Int),ev,(t:Int))]⟩:=by
     by_cases hlt:t<sts.length
     ·rw[if_pos hlt] at hst2
      subst hst2
      exact⟨hgd.len,hgd.ok⟩
     ·rw[if_neg hlt] at hst2
      subst hst2
      refine⟨?_,fun x hx=>?_⟩
      ·show (sts++[(⟨nl,nv⟩:Sta)]).length≤4096
       rw[List.length_append,List.length_singleton]
       rcases hP with h' | h'
       ·exact absurd h' hlt
       ·omega
      ·rcases List.mem_append.1 hx with hx | hx
       ·exact hgd.ok x hx
       ·rw[List.mem_singleton] at hx
        subst hx
        exact hon
    have hi2:i<sts2.length∧sts2[i]? = some ⟨sl,sv⟩:=by
     by_cases hlt:t<sts.length
     ·rw[if_pos hlt] at hst2
      subst hst2
      exact⟨hil,hsi⟩
     ·rw[if_neg hlt] at hst2
      subst hst2
      refine⟨by rw[List.length_append];omega,?_⟩
      rw[List.getElem?_append_left hil]
      exact hsi
    have hi4:i<4096:=by omega
    clear hst2 hst hlk hks hgd hil hsi
    refine zag Tk Tryz.func85 ?_
    refine g_go Tk Tryz.func85 ?_
    refine zaf Tk Tryz.func85 (by exact⟨by show (eds.length+1) * 24≤140737488355328;omega,by show eds.length+1≤9223372036854775807;omega⟩) ?_
    refine zae ?_
    exact ih2 (j+1,⟨sts2,mk,eds++[((i:Int),ev,(t:Int))]⟩) _ _ ⟨h3,hg2,hi2.1,hml,by simp only[List.length_append,List.length_singleton];omega,hi2.2,hV⟩ (by simp only;omega) ⟨rfl,rfl,rfl,rfl,rfl,rfl,rfl,rfl,rfl,rfl,hj1,trivial⟩ rfl ⟨rfl,rfl,rfl,congrArg some (zpr eds ((i:Int),ev,(t:Int))),rfl,trivial⟩ rfl rfl
  ·have h3:alpha.length≤j:=by simpa using g2
   rw[List.drop_eq_nil_of_le h3] at hV
   simp only[zbl] at hV
   subst hV
   simp only at hno
   have hja:j≤4096:=by omega
   refine zae ?_
   exact ih (i+1,⟨sts,mk,eds⟩) _ _ ⟨by simp only;omega,hgd,hml,by simp only;omega,hno⟩ (by simp only;omega) ⟨rfl,rfl,rfl,rfl,rfl,rfl,rfl,congrArg ii (zaB (n:=4096) (by omega) (by decide)),trivial⟩ rfl ⟨rfl,rfl,rfl,rfl,rfl,trivial⟩ rfl rfl
 ·have h1:U.sts.length≤i:=by simpa using g1
  rw[zkx h1] at hno
  subst hno
  obtain⟨sts,mk,eds⟩:=U
  refine za8 (zap 95 rfl rfl) ?_
  refine za8 (zap 47 rfl rfl) ?_
  refine za8 (zap 103 rfl rfl) ?_
  refine za8 (zaZ rfl) ?_
  refine zah Tk (r:=unfD alpha (.ok ⟨sts,mk,eds⟩)) rfl rfl rfl trivial rfl rfl ?_
  rfl
def zbJ (m:Ext):Except Int (Unf Sta):=if chk m≠0 then .error (chk m) else unfX m m.alpha (zdt m)
theorem zvl {g:Nat} (hg:zfA g) {ty:TypeId} {fr:Nat × Nat} (O:List Heap) (m:Ext) (hok:extOk m):zbg g (ptab ty fr) Tryz.prog 32 [extD m] O (unfD m.alpha (zbJ m)) [] O:=by
 have hb:=fun O=>zxz O m hok
 unfold zsM at hb
 unfold zbJ
 by_cases h1:chk m≠0
 ·simp only[if_pos h1] at hb ⊢
  refine za4 [] Tk Tryz.func32 rfl Tryz.call32 Tryz.ntmps32 (Nat.le_of_ble_eq_true rfl) fun E hE=>?_
  refine zag Tk Tryz.func32 ?_
  refine zak Tk Tryz.func32 (hb _) rfl rfl rfl rfl rfl ?_
  refine zai Tk Tryz.func32 rfl (fun h2=>?_) (fun h2=>?_)
  rotate_left
  ·exact absurd (bneF h2) h1
  refine zaz Tk (r:=_) rfl rfl rfl trivial rfl rfl ?_
  exact zxr
 ·have h1:chk m=0:=Classical.byContradiction h1
  have hr:=zhb h1
  have hal:=zfd (by decide) hr.alpha
  simp only[h1,ne_eq,not_true_eq_false,if_false] at hb ⊢
  have hcl:=fun O=>znA O m.alpha (by simp only[big];omega)
  have hun:=fun O ho=>zqI hg (ty:=ty) (fr:=fr) O m m.alpha (zdt m) 0 1 ho hok hr (by omega) (ztS hr)
  generalize unfX m m.alpha (zdt m)=R at *
  generalize zdt m=st at *
  obtain⟨sl,sv⟩:=st
  cases R with
  | error e=>
   refine za4 [] Tk Tryz.func32 rfl Tryz.call32 Tryz.ntmps32 (Nat.le_of_ble_eq_true rfl) fun E hE=>?_
   refine zag Tk Tryz.func32 ?_
   refine zak Tk Tryz.func32 (hb _) rfl rfl rfl rfl rfl ?_
   refine gcF Tk Tryz.func32 rfl ?_
   refine zaw Tk Tryz.func32 zaG rfl ?_
   refine za2 Tk (fun _=>hcl _) rfl rfl rfl ?_
   refine zdw Tk hE (hun _ rfl) rfl rfl rfl rfl ?_
   refine zcY Tk rfl rfl rfl ?_
   refine zaH Tk Tryz.func32 (by kernel_rfl) ?_
   refine zaz Tk (r:=_) rfl rfl rfl trivial rfl rfl ?_
   exact CoD.refl _
  | ok U=>
   obtain⟨us,um,ue⟩:=U
   refine za4 [] Tk Tryz.func32 rfl Tryz.call32 Tryz.ntmps32 (Nat.le_of_ble_eq_true rfl) fun E hE=>?_
   refine zag Tk Tryz.func32 ?_
   refine zak Tk Tryz.func32 (hb _) rfl rfl rfl rfl rfl ?_
   refine gcF Tk Tryz.func32 rfl ?_
   refine zaw Tk Tryz.func32 zaG rfl ?_
   refine za2 Tk (fun _=>hcl _) rfl rfl rfl ?_
   refine zdw Tk hE (hun _ rfl) rfl rfl rfl rfl ?_
   refine zcY Tk rfl rfl rfl ?_
   refine zaH Tk Tryz.func32 (by kernel_rfl) ?_
   refine zaz Tk (r:=_) rfl rfl rfl trivial rfl rfl ?_
   exact CoD.refl _
end Go.AI
namespace Go.AI
def nmIx (l:List ByteArray) (s:ByteArray):Int:=zat (fun x=>sB x s) l 0
def fndI (l:List ByteArray) (s:ByteArray):Int:=if nmIx l s<0 then 0 else nmIx l s
def zea (x:Mv):List Mv→List Mv
 | []=>[x]
 | y::r=>if x.frm<y.frm∨x.frm=y.frm∧x.ev<y.ev then x::y::r else y::zea x r
def zdu (l:List Mv):List Mv:=l.foldl (fun acc x=>zea x acc) []
def insZ (x:Int):List Int→List Int
 | []=>[x]
 | y::r=>if x<y then x::y::r else y::insZ x r
def srtZ:List Int→List Int
 | []=>[]
 | x::r=>insZ x (srtZ r)
theorem zgS (x:Int):∀ l,(insZ x l).Perm (x::l)
 | []=>.refl _
 | y::r=>by
  unfold insZ
  by_cases h:x<y
  ·rw[if_pos h]
  ·rw[if_neg h]
   exact ((zgS x r).cons y).trans (.swap x y r)
theorem zeP:∀ l,(srtZ l).Perm l
 | []=>.refl _
 | x::r=>(zgS x (srtZ r)).trans ((zeP r).cons x)
theorem zrT {x:Int}:∀ {l:List Int},l.Pairwise (· ≤ ·)→(insZ x l).Pairwise (· ≤ ·)
 | [],_=>List.pairwise_singleton _ _
 | y::r,h=>by
  obtain⟨h1,h2⟩:=List.pairwise_cons.1 h
  unfold insZ
  by_cases c:x<y
  ·rw[if_pos c]
   refine List.pairwise_cons.2 ⟨fun z hz=>?_,h⟩
   rcases List.mem_cons.1 hz with rfl | hz
   ·omega
   ·have:=h1 z hz;omega
  ·rw[if_neg c]
   refine List.pairwise_cons.2 ⟨fun z hz=>?_,zrT h2⟩
   rcases List.mem_cons.1 ((zgS x r).mem_iff.1 hz) with rfl | hz
   ·omega
   ·exact h1 z hz
theorem zqT:∀ l,(srtZ l).Pairwise (· ≤ ·)
 | []=>.nil
 | x::r=>zrT (zqT r)
theorem zwa (l:List Int):srtZ l=zc9 l:=by
 refine List.Perm.eq_of_pairwise (le:=(· ≤ ·)) (fun a b _ _ h1 h2=>by omega) (zqT l) (ztT l) ?_
 exact (zeP l).trans (List.mergeSort_perm l _).symm
def mchE (m:Mdl) (x:Ins) (t:Tpl):Ext:=
 let evs:=x.evs.map fun s=>fndI (m.evs.map (·.name)) s
 { alpha:=srtZ evs,locs:=t.mach.locs,init:=t.mach.init,marked:=t.mach.marked,vars:=t.mach.vars,moves:=zdu (t.mach.moves.map fun y=>{ y with ev:=evs.getD y.ev.toNat 0 }) }
def zExt:Ext:=⟨[],0,0,[],[],[]⟩
def mchR (m:Mdl) (x:Ins):Ext:=match zbS m x with
 | none=>zExt
 | some t=>mchE m x t
structure Itm where
 name:ByteArray
 aut:Aut
abbrev itmI (x:Itm):List I:=[strI x.name,zdo x.aut.alpha,vi x.aut.states,zdo x.aut.marked,.sl 3 x.aut.edges.length (x.aut.edges.map edgI)]
abbrev Loc2:=Int × Int
structure XEx where
 name:ByteArray
 locals:List Loc2
abbrev zbt (x:Loc2):List I:=[vi x.1,vi x.2]
abbrev xexI (x:XEx):List I:=[strI x.name,.sl 2 x.locals.length (x.locals.map zbt)]
structure XCn where
 name:ByteArray
 terms:List Loc2
 bound:Int
abbrev xcnI (x:XCn):List I:=[strI x.name,.sl 2 x.terms.length (x.terms.map zbt),vi x.bound]
structure Cel where
 evs:List Evt
 comps:List Itm
 reqs:List Itm
 excs:List XEx
 cons:List XCn
abbrev celC (c:Cel):List D:=[.i (za3 c.evs),.i (.sl 5 c.comps.length (c.comps.map itmI)),.i (.sl 5 c.reqs.length (c.reqs.map itmI)),.i (.sl 2 c.excs.length (c.excs.map xexI)),.i (.sl 3 c.cons.length (c.cons.map xcnI))]
abbrev celD (c:Cel):D:=.agg (celC c)
def zCel:Cel:=⟨[],[],[],[],[]⟩
def zb1 (m:Mdl):List Ins→Nat→Except (Nat × Int) (List Itm × List (List Sta))
 | [],_=>.ok ([],[])
 | x::r,i=>match zbJ (mchR m x) with
  | .error e=>.error (i,e)
  | .ok U=>match zb1 m r (i+1) with
   | .error e=>.error e
   | .ok (a,o)=>.ok (⟨x.name,⟨(mchR m x).alpha,U.sts.length,U.mkl,U.eds⟩⟩::a,U.sts::o)
def stAt (loc:Int):List Sta→Nat→List Int
 | [],_=>[]
 | s::r,i=>if s.loc=loc then (i:Int)::stAt loc r (i+1) else stAt loc r (i+1)
abbrev Chc:=Int × List Int
def chcR (m:Mdl) (origins:List (List Sta)) (x:NLc):Chc:=
 let c:=fndI (m.comps.map (·.name)) x.1
 let t:=match m.comps[c.toNat]? with
  | none=>none
  | some y=>zbS m y
 let loc:=match t with
  | none=>-1
  | some t=>nmIx t.locs x.2
 (c,stAt loc (origins.getD c.toNat []) 0)
def zeA (x:Chc):List Chc→List Chc
 | []=>[x]
 | y::r=>if x.1<y.1 then x::y::r else y::zeA x r
def zdv (l:List Chc):List Chc:=l.foldl (fun acc x=>zeA x acc) []
def chsR:List Chc→List (List Loc2)→List (List Loc2)
 | [],all=>all
 | y::r,all=>chsR r (all.flatMap fun b=>y.2.map fun s=>b++[(y.1,s)])
def chsN:List Chc→Int→Int
 | [],n=>n
 | y::r,n=>chsN r (if n * (y.2.length:Int)<1048576 then n * (y.2.length:Int) else 1048576)
def numX (name:ByteArray):List (List Loc2)→Nat→List XEx
 | [],_=>[]
 | l::r,i=>⟨name++⟨#[95]⟩++zcs i,l⟩::numX name r (i+1)
def expX (m:Mdl) (origins:List (List Sta)) (x:NEx) (most:Int):List XEx × Int:=
 let l:=x.locals.map (chcR m origins)
 if l.any (fun y=>y.2.isEmpty)=true then ([],0) else if chsN l 1>most then ([],3) else
 match chsR (zdv l) [[]] with
 | [one]=>([⟨x.name,one⟩],0)
 | all=>(numX x.name all 0,0)
def dupX:List ByteArray→List XEx→Except Unit (List ByteArray)
 | seen,[]=>.ok seen
 | seen,y::r=>if hasB seen y.name=true then .error () else dupX (seen++[y.name]) r
def zcC (m:Mdl) (origins:List (List Sta)):List NEx→Nat→List ByteArray→List XEx→Except (Nat × Int) (List XEx)
 | [],_,_,out=>.ok out
 | x::r,i,seen,out=>
  if (expX m origins x (32 - (out.length:Int))).2≠0 then .error (i,(expX m origins x (32 - (out.length:Int))).2)
  else if (expX m origins x (32 - (out.length:Int))).1.any (fun y=>decide (y.name.size>32))=true then .error (i,7)
  else match dupX seen (expX m origins x (32 - (out.length:Int))).1 with
   | .error _=>.error (i,8)
   | .ok seen'=>zcC m origins r (i+1) seen' (out++(expX m origins x (32 - (out.length:Int))).1)
def zex (x:Loc2):List Loc2→List Loc2
 | []=>[x]
 | y::r=>if x.1<y.1 then x::y::r else y::zex x r
def zeF (m:Mdl) (x:NCn):XCn:=⟨x.name,(x.terms.map fun t=>(fndI (m.comps.map (·.name)) t.1,t.2)).foldl (fun acc x=>zex x acc) [],x.bound⟩
def celR (m:Mdl):Cel × Plc × Int:=
 if (mdlE m).2≠0 then (zCel,mdlE m) else
 match zb1 m m.comps 0 with
 | .error (i,e)=>(zCel,(3,(i:Int)),e)
 | .ok (a,origins)=>match zb1 m m.reqs 0 with
  | .error (i,e)=>(zCel,(4,(i:Int)),e)
  | .ok (b,_)=>match zcC m origins m.excs 0 [] [] with
   | .error (i,e)=>(zCel,(5,(i:Int)),e)
   | .ok out=>(⟨m.evs,a,b,out,m.cons.map (zeF m)⟩,(0,0),0)
end Go.AI
namespace Go.AI
open Go.Proofs
set_option maxRecDepth 100000
def yesX:Ex:=.mk 6 0 0 [.mk 0 0 0 [],.mk 0 0 0 []]
def zrI:Ext:=⟨[0,1],2,0,[0],[],[⟨0,0,1,yesX,[]⟩,⟨1,1,0,yesX,[]⟩]⟩
def zvk:Ext:=⟨[0],1,0,[0],[⟨⟨#[110]⟩,0,2,0⟩],[⟨0,0,0,.mk 8 0 0 [.mk 1 0 0 [],.mk 0 2 0 []],[⟨0,.mk 2 0 0 [.mk 1 0 0 [],.mk 0 1 0 []]⟩]⟩]⟩
def shopM:Mdl:=
 { name:=⟨#[115,104,111,112]⟩,evs:=[⟨⟨#[98]⟩,false,false,false,0⟩,⟨⟨#[97]⟩,true,false,false,0⟩],tpls:=[⟨⟨#[109,97,99,104,105,110,101]⟩,[⟨#[105,100,108,101]⟩,⟨#[98,117,115,121]⟩],[⟨#[98,101,103,105,110]⟩,⟨#[101,110,100]⟩],zrI⟩,⟨⟨#[115,116,111,114,101]⟩,[⟨#[105,116]⟩],[⟨#[112,117,116]⟩],zvk⟩],comps:=[⟨⟨#[109,49]⟩,⟨#[109,97,99,104,105,110,101]⟩,[⟨#[97]⟩,⟨#[98]⟩]⟩,⟨⟨#[98,117,102,102,101,114]⟩,⟨#[115,116,111,114,101]⟩,[⟨#[98]⟩]⟩],reqs:=[],excs:=[⟨⟨#[120]⟩,[(⟨#[98,117,102,102,101,114]⟩,⟨#[105,116]⟩),(⟨#[109,49]⟩,⟨#[98,117,115,121]⟩)]⟩],cons:=[] }
def zyA:Cel:=⟨shopM.evs,[⟨⟨#[109,49]⟩,⟨[0,1],2,[0],[(0,1,1),(1,0,0)]⟩⟩,⟨⟨#[98,117,102,102,101,114]⟩,⟨[0],3,[0,1,2],[(0,0,1),(1,0,2)]⟩⟩],[],[⟨⟨#[120,95,48]⟩,[(0,1),(1,0)]⟩,⟨⟨#[120,95,49]⟩,[(0,1),(1,1)]⟩,⟨⟨#[120,95,50]⟩,[(0,1),(1,2)]⟩],[]⟩
theorem zq7:celR shopM=(zyA,(0,0),0):=by kernel_rfl
def tplX:Tpl:=⟨⟨#[109,97,99,104,105,110,101]⟩,[⟨#[105,100,108,101]⟩,⟨#[98,117,115,121]⟩],[⟨#[98,101,103,105,110]⟩,⟨#[101,110,100]⟩],zrI⟩
def za0 (c:UInt8) (i:Nat):ByteArray:=⟨#[c]⟩++zcs (i:Int)
def labT:List Vr→List Int→ByteArray→ByteArray
 | v::r,n::s,acc=>labT r s (acc++(⟨#[32]⟩++v.name++⟨#[61]⟩++zcs n))
 | _,_,acc=>acc
def zc0 (m:Mdl) (at_:Plc):Except Int Ins:=
 if at_.1=3 then (if at_.2<0 then .error 10 else match m.comps[at_.2.toNat]? with | none=>.error 10 | some x=>.ok x)
 else if at_.1=4 then (if at_.2<0 then .error 10 else match m.reqs[at_.2.toNat]? with | none=>.error 10 | some x=>.ok x)
 else .error 11
def labR (m:Mdl) (at_:Plc) (s:Sta):ByteArray × Int:=
 if (mdlE m).2≠0 then (⟨#[]⟩,(mdlE m).2) else match zc0 m at_ with
 | .error e=>(⟨#[]⟩,e)
 | .ok x=>if ckS (mchR m x) s≠0 then (⟨#[]⟩,ckS (mchR m x) s) else
  match zbS m x with
  | none=>(⟨#[]⟩,0)
  | some t=>(labT (mchR m x).vars s.vals (t.locs.getD s.loc.toNat ⟨#[]⟩),0)
theorem zo6:labR shopM (3,1) ⟨0,[2]⟩=(⟨#[105,116,32,110,61,50]⟩,0):=by kernel_rfl
end Go.AI
namespace Go.AI
open Go.Proofs
structure Use22 where
 t:Int
 o:Int
 req:Bool
abbrev Whr:=Int × Int
structure Sk22 where
 tpls:List Sk
 ins:List Use22
 excs:List (Whr × Whr)
 bound:Int
abbrev u8J (b:Int):I:=.v (.int .u8 b)
abbrev skI (k:Sk):List I:=[u8J k.locs,u8J k.marks,.sl 2 k.rngs.length (k.rngs.map r8I),.sl 5 k.lines.length (k.lines.map linI)]
abbrev useI (u:Use22):List I:=[u8J u.t,u8J u.o,bI u.req]
abbrev whrI (p:Whr × Whr):List I:=[u8J p.1.1,u8J p.1.2,u8J p.2.1,u8J p.2.2]
abbrev zen (k:Sk22):List D:=[.i (.sl 4 k.tpls.length (k.tpls.map skI)),.i (.sl 3 k.ins.length (k.ins.map useI)),.i (.sl 4 k.excs.length (k.excs.map whrI)),.i (.v (.int .i8 k.bound))]
abbrev zwi (k:Sk22):D:=.agg (zen k)
def zhh (p:Whr):Prop:=(0≤p.1∧p.1≤255)∧(0≤p.2∧p.2≤255)
structure sk22Ok (k:Sk22):Prop where
 tl:k.tpls.length≤zao
 t:∀ x∈k.tpls,skOk x
 il:k.ins.length≤zao
 i:∀ u∈k.ins,(0≤u.t∧u.t≤255)∧(0≤u.o∧u.o≤255)
 el:k.excs.length≤zao
 e:∀ p∈k.excs,zhh p.1∧zhh p.2
 b:-128≤k.bound∧k.bound≤127
def evs4:List Evt:=[⟨⟨#[101,48]⟩,true,true,false,0⟩,⟨⟨#[101,49]⟩,false,true,false,0⟩,⟨⟨#[101,50]⟩,true,false,false,0⟩,⟨⟨#[101,51]⟩,false,false,false,0⟩]
def nms4:List ByteArray:=[⟨#[101,48]⟩,⟨#[101,49]⟩,⟨#[101,50]⟩,⟨#[101,51]⟩]
def abc3:List ByteArray:=[⟨#[97]⟩,⟨#[98]⟩,⟨#[99]⟩]
def zSk:Sk:=⟨0,0,[],[]⟩
def zUse:Use22:=⟨0,0,false⟩
def zfT:Ins:=⟨⟨#[]⟩,⟨#[]⟩,[]⟩
def zTpl:Tpl:=⟨⟨#[]⟩,[],[],⟨[],0,0,[],[],[]⟩⟩
def zqL (i:Nat) (k:Sk):Tpl:=⟨za0 116 i,(List.range (zbW k)).map (za0 115),abc3,ziF k⟩
def zeM (l:List Sk) (n:Nat):List Tpl:=(List.range n).map fun i=>zqL i (l.getD i zSk)
def mkT (k:Sk22):List Tpl:=zeM k.tpls (min k.tpls.length 3)
def ordS (o:Int):Nat→List ByteArray × List ByteArray × Int
 | 0=>([],nms4,o)
 | k+1=>((ordS o k).1++[(ordS o k).2.1.getD ((ordS o k).2.2 % (4 - (k:Int))).toNat ⟨#[]⟩],
   (ordS o k).2.1.take ((ordS o k).2.2 % (4 - (k:Int))).toNat++(ordS o k).2.1.drop (((ordS o k).2.2 % (4 - (k:Int))).toNat+1),(ordS o k).2.2 / (4 - (k:Int)))
theorem zf3 (o:Int) (ho:0≤o∧o≤255):∀ k,k≤3→(ordS o k).1.length=k∧(ordS o k).2.1.length=4 - k∧0≤(ordS o k).2.2∧(ordS o k).2.2≤255
 | 0,_=>⟨rfl,rfl,ho⟩
 | k+1,h=>by
  obtain⟨h1,h2,h3,h4⟩:=zf3 o ho k (by omega)
  have h5:=Int.emod_nonneg (ordS o k).2.2 (show 4 - (k:Int)≠0 by omega)
  have h6:=Int.emod_lt_of_pos (ordS o k).2.2 (show 0<4 - (k:Int) by omega)
  have h7:=Int.ediv_nonneg h3 (show 0≤4 - (k:Int) by omega)
  have h8:=Int.ediv_le_self (4 - (k:Int)) h3
  simp only[ordS,List.length_append,List.length_singleton,List.length_take,List.length_drop]
  generalize (ordS o k).2.2 % (4 - (k:Int))=q at *
  refine⟨by omega,by omega,h7,by omega⟩
def zjT (nt:Nat) (i:Nat) (u:Use22):Ins:=⟨za0 105 i,za0 116 (u.t % (nt:Int)).toNat,(ordS u.o 3).1⟩
def covB (l:List Ins) (evs:List ByteArray):Bool:=evs.all fun s=>l.any fun x=>decide (nmIx x.evs s ≥ 0)
def zpD (nt:Nat) (st:List Ins × List Ins) (i:Nat) (u:Use22):List Ins × List Ins:=
 if u.req=false∧st.1.length<3 then (st.1++[zjT nt i u],st.2) else if covB st.1 (zjT nt i u).evs=true∧st.2.length<2 then (st.1,st.2++[zjT nt i u]) else st
def insN (nt:Nat) (l:List Use22):Nat→List Ins × List Ins
 | 0=>([],[])
 | i+1=>zpD nt (insN nt l i) i (l.getD i zUse)
theorem zf5 (nt:Nat) (l:List Use22):∀ i,(insN nt l i).1.length≤3∧(insN nt l i).2.length≤2
 | 0=>⟨Nat.zero_le _,Nat.zero_le _⟩
 | i+1=>by
  obtain⟨h1,h2⟩:=zf5 nt l i
  simp only[insN,zpD]
  split
  ·rename_i h
   simp only[List.length_append,List.length_singleton]
   exact⟨by omega,h2⟩
  ·split
   ·rename_i h
    simp only[List.length_append,List.length_singleton]
    exact⟨h1,by omega⟩
   ·exact⟨h1,h2⟩
theorem znf {P:Ins→Prop} (nt:Nat) (l:List Use22) (h:∀ i,P (zjT nt i (l.getD i zUse))):∀ i,∀ x∈(insN nt l i).1++(insN nt l i).2,P x
 | 0=>by simp[insN]
 | i+1=>by
  have ih:=znf nt l h i
  have h1:=h i
  intro x hx
  simp only[insN,zpD] at hx
  rcases List.mem_append.1 hx with hx | hx
  ·split at hx
   ·rcases List.mem_append.1 hx with hx | hx
    ·exact ih x (List.mem_append_left _ hx)
    ·rw[List.mem_singleton.1 hx];exact h1
   ·split at hx <;> exact ih x (List.mem_append_left _ hx)
  ·split at hx
   ·exact ih x (List.mem_append_right _ hx)
   ·split at hx
    ·rcases List.mem_append.1 hx with hx | hx
     ·exact ih x (List.mem_append_right _ hx)
     ·rw[List.mem_singleton.1 hx];exact h1
    ·exact ih x (List.mem_append_right _ hx)
def ze2 (k:Sk22):Nat:=if (mkT k).length=0 then 0 else min k.ins.length 5
def mkI (k:Sk22):List Ins × List Ins:=insN (mkT k).length k.ins (ze2 k)
def zds (T:List Tpl) (c:Ins):Tpl:=(T.find? fun t=>sB t.name c.tpl).getD zTpl
def excA (T:List Tpl) (C:List Ins) (acc:List NLc) (w:Whr):List NLc:=
 if (match acc with | []=>false | a::_=>sB a.1 (C.getD (w.1 % (C.length:Int)).toNat zfT).name)=true then acc
 else acc++[((C.getD (w.1 % (C.length:Int)).toNat zfT).name,(zds T (C.getD (w.1 % (C.length:Int)).toNat zfT)).locs.getD (w.2 % ((zds T (C.getD (w.1 % (C.length:Int)).toNat zfT)).locs.length:Int)).toNat ⟨#[]⟩)]
def zuZ (T:List Tpl) (C:List Ins) (i:Nat) (p:Whr × Whr):NEx:=⟨za0 120 i,excA T C (excA T C [] p.1) p.2⟩
def zWhr:Whr × Whr:=((0,0),(0,0))
def zeB (T:List Tpl) (C:List Ins) (l:List (Whr × Whr)) (n:Nat):List NEx:=(List.range n).map fun i=>zuZ T C i (l.getD i zWhr)
def zcI (C:List Ins):List NTm:=((List.range C.length).map fun i=>((C.getD i zfT).name,1+(i:Int))).reverse
def zyq (C:List Ins) (b:Int):NCn:=⟨⟨#[99]⟩,zcI C,b % 5⟩
def zcl (k:Sk22):Mdl:=
 if (mkI k).1.length=0 then ⟨⟨#[109]⟩,evs4,mkT k,(mkI k).1,(mkI k).2,[],[]⟩
 else ⟨⟨#[109]⟩,evs4,mkT k,(mkI k).1,(mkI k).2,zeB (mkT k) (mkI k).1 k.excs (min k.excs.length 2),if k.bound>0 then [zyq (mkI k).1 k.bound] else []⟩
theorem zdd (k:Sk22):(mkT k).length=min k.tpls.length 3:=by simp[mkT,zeM]
theorem zwU {k:Sk22} {j:Nat} (h:j<(mkT k).length):(mkT k)[j]? = some (zqL j (k.tpls.getD j zSk)):=by
 unfold mkT zeM at *
 rw[List.getElem?_map,List.getElem?_range (by simpa using h)]
 rfl
theorem zrW (k:Sk22) (hk:sk22Ok k) (h:(mkT k).length≠0) (i:Nat) (hi:i<k.ins.length):∃ t∈mkT k,(mkT k).find? (fun t=>sB t.name (zjT (mkT k).length i (k.ins.getD i zUse)).tpl)=some t:=by
 have hu:=hk.i (k.ins.getD i zUse) (by rw[List.getD_eq_getElem?_getD,List.getElem?_eq_getElem hi];exact List.getElem_mem hi)
 have h1:=Int.emod_nonneg (k.ins.getD i zUse).t (show ((mkT k).length:Int)≠0 by omega)
 have h2:=Int.emod_lt_of_pos (k.ins.getD i zUse).t (show 0<((mkT k).length:Int) by omega)
 have hg:=zwU (k:=k) (j:=((k.ins.getD i zUse).t % ((mkT k).length:Int)).toNat) (by omega)
 have hm:=List.mem_of_getElem? hg
 cases hf:(mkT k).find? (fun t=>sB t.name (zjT (mkT k).length i (k.ins.getD i zUse)).tpl) with
 | none=>
  have:=List.find?_eq_none.1 hf _ hm
  exact absurd (zcy.2 rfl) this
 | some t=>exact⟨t,List.mem_of_find?_eq_some hf,rfl⟩
theorem ziC {k:Sk22} {t:Tpl} (h:t∈mkT k):∃ j,j<(mkT k).length∧j<k.tpls.length∧t=zqL j (k.tpls.getD j zSk):=by
 unfold mkT zeM at h
 obtain⟨j,h1,h2⟩:=List.mem_map.1 h
 have h1:=List.mem_range.1 h1
 exact⟨j,by rw[zdd];exact h1,by omega,h2.symm⟩
theorem zcN {α:Type} {l:List α} {i:Nat} {d:α} (h:i<l.length):l.getD i d∈l:=by
 rw[List.getD_eq_getElem?_getD,List.getElem?_eq_getElem h]
 exact List.getElem_mem h
theorem zc3 {P:Ins→Prop} (nt:Nat) (l:List Use22):∀ n,(∀ i,i<n→P (zjT nt i (l.getD i zUse)))→∀ x∈(insN nt l n).1++(insN nt l n).2,P x
 | 0,_=>by simp[insN]
 | i+1,h=>by
  have ih:=zc3 nt l i fun j hj=>h j (by omega)
  have h1:=h i (by omega)
  intro x hx
  simp only[insN,zpD] at hx
  rcases List.mem_append.1 hx with hx | hx
  ·split at hx
   ·rcases List.mem_append.1 hx with hx | hx
    ·exact ih x (List.mem_append_left _ hx)
    ·rw[List.mem_singleton.1 hx];exact h1
   ·split at hx <;> exact ih x (List.mem_append_left _ hx)
  ·split at hx
   ·exact ih x (List.mem_append_right _ hx)
   ·split at hx
    ·rcases List.mem_append.1 hx with hx | hx
     ·exact ih x (List.mem_append_right _ hx)
     ·rw[List.mem_singleton.1 hx];exact h1
    ·exact ih x (List.mem_append_right _ hx)
theorem zdG (k:Sk22):ze2 k≤k.ins.length∧ze2 k≤5:=by unfold ze2;split <;> omega
theorem zwV (k:Sk22) (hk:sk22Ok k):∀ x∈(mkI k).1++(mkI k).2,∃ t∈mkT k,(mkT k).find? (fun t=>sB t.name x.tpl)=some t:=by
 by_cases h:(mkT k).length=0
 ·have:ze2 k=0:=by unfold ze2;rw[if_pos h]
  intro x hx
  unfold mkI at hx
  rw[this] at hx
  simp[insN] at hx
 ·exact zc3 _ _ _ fun i hi=>zrW k hk h i (by have:=zdG k;omega)
end Go.AI
namespace Go.Proofs.YtnojpbbaohoadaaGreatDoor
open Go.ChangeShapes Go.WideShapes Go.ChangeAt Go.RowKit Go.Deep Go.WideElems
set_option maxRecDepth 100000
section
variable {H:Type} {enc:TypeId × Value→H} {W:World}
theorem zup:Opn enc Tryz.prog W 229 fun is=>∃ x:AI.Lin,is=AI.linI x∧AI.linOk x:=by
 intro n cs x h
 obtain⟨is,hr,a,b,c,rfl,⟨zs,hz,rfl,hw⟩,⟨g,rfl,hg,hgl⟩,⟨u,rfl,hu,hul⟩⟩:=zgD Tryz.underlying229 (z0:=3) (z1:=1) (z2:=1) (by kernel_rfl) (by kernel_rfl) (by kernel_rfl) (by kernel_rfl) rfl rfl rfl
  (zjy Tryz.underlying227 Tryz.underlying5 (by kernel_rfl) (by kernel_rfl)) zmZ zmZ n cs x h
 match zs,hz with
 | [p,q,r],_=>
  exact⟨_,hr,⟨p,q,r,g,u⟩,rfl,wf_u8 (hw p (by simp)),wf_u8 (hw q (by simp)),wf_u8 (hw r (by simp)),hg,hgl,hu,hul⟩
theorem zrt:Opn enc Tryz.prog W 139 fun is=>∃ l:List AI.Lin,is=[.sl 5 l.length (l.map AI.linI)]∧(∀ x∈l,AI.linOk x)∧l.length≤AI.zao:=by
 intro n cs x h
 obtain⟨is,hr,xs,rfl,hx,hl⟩:=zc1 Tryz.underlying139 (z:=5) (by kernel_rfl) (by decide) zup n cs x h
 obtain⟨l,rfl,hq⟩:=zet (f:=AI.linI) (Q:=AI.linOk) (xs:=xs) hx
 refine⟨_,hr,l,by simp,hq,zdZ (by simpa using hl)⟩
theorem zpn:Opn enc Tryz.prog W 138 fun is=>∃ l:List (Int × Int),is=[.sl 2 l.length (l.map AI.r8I)]∧(∀ x∈l,AI.zfH x)∧l.length≤AI.zao:=by
 intro n cs x h
 obtain⟨is,hr,xs,rfl,hx,hl⟩:=zc1 Tryz.underlying138 (z:=2) (by kernel_rfl) (by decide) (zjy Tryz.underlying288 Tryz.underlying25 (by kernel_rfl) (by kernel_rfl)) n cs x h
 obtain⟨l,rfl,hq⟩:=zet (f:=AI.r8I) (Q:=AI.zfH) (xs:=xs) fun d hd=>by
  obtain⟨zs,hz,he,hw⟩:=hx d hd
  match zs,hz with
  | [p,q],_=>exact⟨(p,q),he,(wf_i8 (hw p (by simp))).1,(wf_i8 (hw p (by simp))).2,(wf_i8 (hw q (by simp))).1,(wf_i8 (hw q (by simp))).2⟩
 refine⟨_,hr,l,by simp,hq,zdZ (by simpa using hl)⟩
theorem zwO:Opn enc Tryz.prog W 141 fun is=>∃ k:AI.Sk,is=AI.skI k∧AI.skOk k:=by
 intro n cs x h
 obtain⟨is,hr,a,b,c,d,rfl,⟨p,rfl,hp⟩,⟨q,rfl,hq⟩,⟨r,rfl,h1,h2⟩,⟨l,rfl,h3,h4⟩⟩:=zgC Tryz.underlying141 (z0:=1) (z1:=1) (z2:=1) (z3:=1) (by kernel_rfl) (by kernel_rfl) (by kernel_rfl) (by kernel_rfl) (by kernel_rfl) rfl rfl rfl rfl
  (zdD Tryz.underlying5) (zdD Tryz.underlying5) zpn zrt n cs x h
 exact⟨_,hr,⟨p,q,r,l⟩,rfl,wf_u8 hp,wf_u8 hq,h2,h1,h4,h3⟩
theorem zuo:Opn enc Tryz.prog W 22 fun is=>∃ l:List AI.Sk,is=[.sl 4 l.length (l.map AI.skI)]∧(∀ x∈l,AI.skOk x)∧l.length≤AI.zao:=by
 intro n cs x h
 obtain⟨is,hr,xs,rfl,hx,hl⟩:=zc1 Tryz.underlying22 (z:=4) (by kernel_rfl) (by decide) zwO n cs x h
 obtain⟨l,rfl,hq⟩:=zet (f:=AI.skI) (Q:=AI.skOk) (xs:=xs) hx
 refine⟨_,hr,l,by simp,hq,zdZ (by simpa using hl)⟩
theorem zrv:Opn enc Tryz.prog W 4 fun is=>∃ b:Bool,is=[AI.bI b]:=by
 intro n cs x h
 obtain⟨b,rfl,_⟩:=DataW.trod_bool Tryz.underlying4 h
 exact⟨[AI.bI b],.cons (.v rfl) .nil,b,rfl⟩
theorem zun:Opn enc Tryz.prog W 143 fun is=>∃ u:AI.Use22,is=AI.useI u∧(0≤u.t∧u.t≤255)∧(0≤u.o∧u.o≤255):=by
 intro n cs x h
 obtain⟨is,hr,a,b,c,rfl,⟨p,rfl,hp⟩,⟨q,rfl,hq⟩,⟨r,rfl⟩⟩:=zgD Tryz.underlying143 (z0:=1) (z1:=1) (z2:=1) (by kernel_rfl) (by kernel_rfl) (by kernel_rfl) (by kernel_rfl) rfl rfl rfl
  (zdD Tryz.underlying5) (zdD Tryz.underlying5) zrv n cs x h
 exact⟨_,hr,⟨p,q,r⟩,rfl,wf_u8 hp,wf_u8 hq⟩
theorem zrs:Opn enc Tryz.prog W 23 fun is=>∃ l:List AI.Use22,is=[.sl 3 l.length (l.map AI.useI)]∧(∀ u∈l,(0≤u.t∧u.t≤255)∧(0≤u.o∧u.o≤255))∧l.length≤AI.zao:=by
 intro n cs x h
 obtain⟨is,hr,xs,rfl,hx,hl⟩:=zc1 Tryz.underlying23 (z:=3) (by kernel_rfl) (by decide) zun n cs x h
 obtain⟨l,rfl,hq⟩:=zet (f:=AI.useI) (Q:=fun u=>(0≤u.t∧u.t≤255)∧(0≤u.o∧u.o≤255)) (xs:=xs) hx
 refine⟨_,hr,l,by simp,hq,zdZ (by simpa using hl)⟩
theorem zmY:Opn enc Tryz.prog W 146 fun is=>∃ p:AI.Whr,is=[AI.u8J p.1,AI.u8J p.2]∧AI.zhh p:=by
 intro n cs x h
 obtain⟨is,hr,a,b,rfl,⟨p,rfl,hp⟩,⟨q,rfl,hq⟩⟩:=zkN Tryz.underlying146 (z0:=1) (z1:=1) (by kernel_rfl) (by kernel_rfl) (by kernel_rfl) rfl rfl
  (zdD Tryz.underlying5) (zdD Tryz.underlying5) n cs x h
 exact⟨_,hr,(p,q),rfl,wf_u8 hp,wf_u8 hq⟩
theorem zrr:Opn enc Tryz.prog W 147 fun is=>∃ p:AI.Whr × AI.Whr,is=AI.whrI p∧AI.zhh p.1∧AI.zhh p.2:=by
 intro n cs x h
 obtain⟨xs,f,rfl,rfl,hl,hlen,hx⟩:=DataW.trod_array Tryz.underlying147 h
 have e4:Tryz.prog.cellsOf 147=4:=by kernel_rfl
 have e2:Tryz.prog.cellsOf 146=2:=by kernel_rfl
 rw[e4] at hl
 have h0:=hx 0 (by omega)
 have h1:=hx 1 (by omega)
 rw[e2,List.getElem?_eq_getElem (by omega)] at h0 h1
 obtain⟨i0,r0,p,rfl,hp⟩:=zmY _ _ _ h0
 obtain⟨i1,r1,q,rfl,hq⟩:=zmY _ _ _ h1
 refine⟨AI.whrI (p,q),?_,(p,q),rfl,hp,hq⟩
 have e:cs=(cs.drop (0 * 2)).take 2++(cs.drop (1 * 2)).take 2:=by
  rw[Nat.zero_mul,Nat.one_mul,List.drop_zero]
  have:(cs.drop 2).take 2=cs.drop 2:=List.take_of_length_le (by simp;omega)
  rw[this,List.take_append_drop]
 rw[e]
 exact zcJ r0 r1
theorem zru:Opn enc Tryz.prog W 24 fun is=>∃ l:List (AI.Whr × AI.Whr),is=[.sl 4 l.length (l.map AI.whrI)]∧(∀ p∈l,AI.zhh p.1∧AI.zhh p.2)∧l.length≤AI.zao:=by
 intro n cs x h
 obtain⟨is,hr,xs,rfl,hx,hl⟩:=zc1 Tryz.underlying24 (z:=4) (by kernel_rfl) (by decide) zrr n cs x h
 obtain⟨l,rfl,hq⟩:=zet (f:=AI.whrI) (Q:=fun p=>AI.zhh p.1∧AI.zhh p.2) (xs:=xs) hx
 refine⟨_,hr,l,by simp,hq,zdZ (by simpa using hl)⟩
theorem zrw {r:Reach} {b0:Nat} {v:Value} {d:DataW H} {p:List MemPlace} (hv:Value.okWide Tryz.prog W r b0 27 v) (h:DataW.Trod enc Tryz.prog W 0 (fun _=>true) true 27 v d p) :
  ∃ k:AI.Sk22,AI.sk22Ok k∧∀ ρ sh,AI.RepD (KW W) ρ sh v (AI.zwi k):=by
 obtain⟨cs,rfl,_⟩:=okWide_struct Tryz.underlying27 hv
 obtain⟨n,hn⟩:=h
 obtain⟨is,hr,a,b,c,e,rfl,⟨t,rfl,t1,t2⟩,⟨u,rfl,u1,u2⟩,⟨x,rfl,x1,x2⟩,⟨z,rfl,hz⟩⟩:=zgC Tryz.underlying27 (z0:=1) (z1:=1) (z2:=1) (z3:=1) (by kernel_rfl) (by kernel_rfl) (by kernel_rfl) (by kernel_rfl) (by kernel_rfl) rfl rfl rfl rfl
  zuo zrs zru (zdD Tryz.underlying25) n _ _ hn
 refine⟨⟨t,u,x,z⟩,⟨t2,t1,u2,u1,x2,x1,wf_i8 hz⟩,fun ρ sh=>?_⟩
 have:=AI.RepD.agg (AI.RepDL.ofL (ρ:=ρ) (sh:=sh) hr)
 simpa [Value.cells] using this
end
end Go.Proofs.YtnojpbbaohoadaaGreatDoor
namespace Go.AI
open Go.Proofs
set_option maxRecDepth 20000
abbrev sD (s:ByteArray):D:=.i (strI s)
abbrev ssD (l:List ByteArray):D:=.i (zhi l)
abbrev bbI (b:Bool):D:=.i (bI b)
abbrev evtD (x:Evt):D:=.agg [sD x.name,bbI x.c,bbI x.o,bbI x.f,ii x.fault]
abbrev tplC (x:Tpl):List D:=[sD x.name,ssD x.locs,ssD x.evs,ints x.mach.alpha,ii x.mach.locs,ii x.mach.init,ints x.mach.marked,vrs x.mach.vars,.i (.sl 8 x.mach.moves.length (x.mach.moves.map mvI))]
abbrev tplD (x:Tpl):D:=.agg (tplC x)
abbrev insC (x:Ins):List D:=[sD x.name,sD x.tpl,ssD x.evs]
abbrev insD (x:Ins):D:=.agg (insC x)
abbrev nlcD (x:NLc):D:=.agg [sD x.1,sD x.2]
abbrev ntmD (x:NTm):D:=.agg [sD x.1,ii x.2]
abbrev zrz (l:List NLc):I:=.sl 2 l.length (l.map nlcI)
abbrev zwQ (l:List NTm):I:=.sl 2 l.length (l.map ntmI)
abbrev nexC (x:NEx):List D:=[sD x.name,.i (zrz x.locals)]
abbrev nexD (x:NEx):D:=.agg (nexC x)
abbrev ncnC (x:NCn):List D:=[sD x.name,.i (zwQ x.terms),ii x.bound]
abbrev ncnD (x:NCn):D:=.agg (ncnC x)
theorem zfL {α:Type} {p:α→Bool}:∀ (l:List α) (i:Nat),(l.find? p=none∧zat p l i = -1)∨∃ (k:Nat) (e:α),l[k]? = some e∧l.find? p=some e∧zat p l i=((i+k:Nat):Int)
 | [],i=>.inl ⟨rfl,rfl⟩
 | x::r,i=>by
  cases h:p x with
  | true=>exact .inr ⟨0,x,rfl,by simp[h],by simp[zat,h]⟩
  | false=>
   rcases zfL r (i+1) with ⟨h1,h2⟩ | ⟨k,e,h1,h2,h3⟩
   ·exact .inl ⟨by rw[List.find?_cons,h];exact h1,by simp only[zat,h];rw[if_neg (by simp)];exact h2⟩
   ·refine .inr ⟨k+1,e,by simpa using h1,by rw[List.find?_cons,h];exact h2,?_⟩
    simp only[zat,h]
    rw[if_neg (by simp),h3]
    congr 1
    omega
theorem zbR {α β:Type} (p:β→Bool) (f:α→β):∀ (l:List α) (i:Nat),zat p (l.map f) i=zat (fun x=>p (f x)) l i
 | [],_=>rfl
 | x::r,i=>by
  simp only[List.map_cons,zat,zbR p f r]
theorem zuN (O:List Heap) (l:List Evt) (f d nm:Nat) (p:Evt→Bool) (hl:l.length≤zao) (hp:∀ x∈l,zan Tryz.prog f [evtD x,.own (d+1) nm 0 0] ([]::O) (bb (p x)) [] ([]::O)) :
  zan Tryz.prog 104 [.i (.sl 5 l.length (l.map evtI)),.fn (.func f) [] [.own d nm 0 0]] O (ii (zat p l 0)) [] O:=by
 generalize hR:zat p l 0=R
 refine zaa Tk Tryz.func104 rfl Tryz.call104 Tryz.ntmps104 (Nat.le_of_ble_eq_true rfl) fun E=>?_
 refine zag Tk Tryz.func104 ?_
 refine zae ?_
 refine zaj (fun i:Nat=>[(0,.i (.sl 5 l.length (l.map evtI))),(1,.fn (.func f) [] [.own (d+1) nm 0 0]),(6,.i (.sl 5 l.length (l.map evtI))),(7,ii l.length),(8,ii i)]) (fun _=>[]) (fun _=>O) 19
  (fun i=>i≤l.length∧zat p (l.drop i) i=R) (fun i=>l.length - i) 0 ⟨Nat.zero_le _,hR⟩ ⟨rfl,rfl,rfl,rfl,rfl,trivial⟩ rfl trivial rfl rfl ?_
 rintro i ⟨hi,hno⟩ ih
 clear hR
 refine zag Tk Tryz.func104 ?_
 refine zai Tk Tryz.func104 rfl (fun g1=>?_) (fun g1=>?_)
 ·have h1:i<l.length:=by simpa using g1
  have gs:(l.map evtI)[(i:Int).toNat]? = some (evtI l[i]):=zam h1
  have hps:=hp l[i] (List.getElem_mem h1)
  have hd:l.drop i=l[i]::l.drop (i+1):=List.drop_eq_getElem_cons h1
  rw[hd] at hno
  simp only[zat] at hno
  clear hd
  generalize l[i]=s at *
  refine zaf Tk Tryz.func104 (by exact⟨by omega,by show (i:Int)<(l.length:Int);omega⟩) ?_
  refine zaq Tk Tryz.func104 (gs) ?_
  refine zak Tk Tryz.func104 (hps) rfl rfl rfl rfl rfl ?_
  refine zai Tk Tryz.func104 rfl (fun g2=>?_) (fun g2=>?_)
  ·rw[if_pos g2] at hno
   subst hno
   refine zah Tk (r:=ii (i:Int)) rfl rfl rfl trivial rfl rfl ?_
   rfl
  ·have g2:p s=false:=g2
   rw[if_neg (by rw[g2];decide)] at hno
   refine zae ?_
   exact ih (i+1) _ _ ⟨h1,hno⟩ (by omega) ⟨rfl,rfl,rfl,rfl,congrArg ii (zaB h1 hl),trivial⟩ rfl trivial rfl rfl
 ·have h1:l.length≤i:=by simpa using g1
  rw[List.drop_eq_nil_of_le h1] at hno
  have hno:(-1:Int)=R:=hno
  subst hno
  refine zah Tk (r:=ii (-1)) rfl rfl rfl trivial rfl rfl ?_
  rfl
theorem zuM (O:List Heap) (l:List Tpl) (f d nm:Nat) (p:Tpl→Bool) (hl:l.length≤zao) (hp:∀ x∈l,zan Tryz.prog f [tplD x,.own (d+1) nm 0 0] ([]::O) (bb (p x)) [] ([]::O)) :
  zan Tryz.prog 106 [.i (.sl 9 l.length (l.map tplI)),.fn (.func f) [] [.own d nm 0 0]] O (ii (zat p l 0)) [] O:=by
 generalize hR:zat p l 0=R
 refine zaa Tk Tryz.func106 rfl Tryz.call106 Tryz.ntmps106 (Nat.le_of_ble_eq_true rfl) fun E=>?_
 refine zag Tk Tryz.func106 ?_
 refine zae ?_
 refine zaj (fun i:Nat=>[(0,.i (.sl 9 l.length (l.map tplI))),(1,.fn (.func f) [] [.own (d+1) nm 0 0]),(6,.i (.sl 9 l.length (l.map tplI))),(7,ii l.length),(8,ii i)]) (fun _=>[]) (fun _=>O) 19
  (fun i=>i≤l.length∧zat p (l.drop i) i=R) (fun i=>l.length - i) 0 ⟨Nat.zero_le _,hR⟩ ⟨rfl,rfl,rfl,rfl,rfl,trivial⟩ rfl trivial rfl rfl ?_
 rintro i ⟨hi,hno⟩ ih
 clear hR
 refine zag Tk Tryz.func106 ?_
 refine zai Tk Tryz.func106 rfl (fun g1=>?_) (fun g1=>?_)
 ·have h1:i<l.length:=by simpa using g1
  have gs:(l.map tplI)[(i:Int).toNat]? = some (tplI l[i]):=zam h1
  have hps:=hp l[i] (List.getElem_mem h1)
  have hd:l.drop i=l[i]::l.drop (i+1):=List.drop_eq_getElem_cons h1
  rw[hd] at hno
  simp only[zat] at hno
  clear hd
  generalize l[i]=s at *
  refine zaf Tk Tryz.func106 (by exact⟨by omega,by show (i:Int)<(l.length:Int);omega⟩) ?_
  refine zaq Tk Tryz.func106 (gs) ?_
  refine zak Tk Tryz.func106 (hps) rfl rfl rfl rfl rfl ?_
  refine zai Tk Tryz.func106 rfl (fun g2=>?_) (fun g2=>?_)
  ·rw[if_pos g2] at hno
   subst hno
   refine zah Tk (r:=ii (i:Int)) rfl rfl rfl trivial rfl rfl ?_
   rfl
  ·have g2:p s=false:=g2
   rw[if_neg (by rw[g2];decide)] at hno
   refine zae ?_
   exact ih (i+1) _ _ ⟨h1,hno⟩ (by omega) ⟨rfl,rfl,rfl,rfl,congrArg ii (zaB h1 hl),trivial⟩ rfl trivial rfl rfl
 ·have h1:l.length≤i:=by simpa using g1
  rw[List.drop_eq_nil_of_le h1] at hno
  have hno:(-1:Int)=R:=hno
  subst hno
  refine zah Tk (r:=ii (-1)) rfl rfl rfl trivial rfl rfl ?_
  rfl
theorem zni (O:List Heap) (l:List Ins) (f d nm:Nat) (p:Ins→Bool) (hl:l.length≤zao) (hp:∀ x∈l,zan Tryz.prog f [insD x,.own (d+1) nm 0 0] ([]::O) (bb (p x)) [] ([]::O)) :
  zan Tryz.prog 108 [.i (.sl 3 l.length (l.map insI)),.fn (.func f) [] [.own d nm 0 0]] O (ii (zat p l 0)) [] O:=by
 generalize hR:zat p l 0=R
 refine zaa Tk Tryz.func108 rfl Tryz.call108 Tryz.ntmps108 (Nat.le_of_ble_eq_true rfl) fun E=>?_
 refine zag Tk Tryz.func108 ?_
 refine zae ?_
 refine zaj (fun i:Nat=>[(0,.i (.sl 3 l.length (l.map insI))),(1,.fn (.func f) [] [.own (d+1) nm 0 0]),(6,.i (.sl 3 l.length (l.map insI))),(7,ii l.length),(8,ii i)]) (fun _=>[]) (fun _=>O) 19
  (fun i=>i≤l.length∧zat p (l.drop i) i=R) (fun i=>l.length - i) 0 ⟨Nat.zero_le _,hR⟩ ⟨rfl,rfl,rfl,rfl,rfl,trivial⟩ rfl trivial rfl rfl ?_
 rintro i ⟨hi,hno⟩ ih
 clear hR
 refine zag Tk Tryz.func108 ?_
 refine zai Tk Tryz.func108 rfl (fun g1=>?_) (fun g1=>?_)
 ·have h1:i<l.length:=by simpa using g1
  have gs:(l.map insI)[(i:Int).toNat]? = some (insI l[i]):=zam h1
  have hps:=hp l[i] (List.getElem_mem h1)
  have hd:l.drop i=l[i]::l.drop (i+1):=List.drop_eq_getElem_cons h1
  rw[hd] at hno
  simp only[zat] at hno
  clear hd
  generalize l[i]=s at *
  refine zaf Tk Tryz.func108 (by exact⟨by omega,by show (i:Int)<(l.length:Int);omega⟩) ?_
  refine zaq Tk Tryz.func108 (gs) ?_
  refine zak Tk Tryz.func108 (hps) rfl rfl rfl rfl rfl ?_
  refine zai Tk Tryz.func108 rfl (fun g2=>?_) (fun g2=>?_)
  ·rw[if_pos g2] at hno
   subst hno
   refine zah Tk (r:=ii (i:Int)) rfl rfl rfl trivial rfl rfl ?_
   rfl
  ·have g2:p s=false:=g2
   rw[if_neg (by rw[g2];decide)] at hno
   refine zae ?_
   exact ih (i+1) _ _ ⟨h1,hno⟩ (by omega) ⟨rfl,rfl,rfl,rfl,congrArg ii (zaB h1 hl),trivial⟩ rfl trivial rfl rfl
 ·have h1:l.length≤i:=by simpa using g1
  rw[List.drop_eq_nil_of_le h1] at hno
  have hno:(-1:Int)=R:=hno
  subst hno
  refine zah Tk (r:=ii (-1)) rfl rfl rfl trivial rfl rfl ?_
  rfl
theorem zuL (O:List Heap) (l:List NEx) (f d nm:Nat) (p:NEx→Bool) (hl:l.length≤zao) (hp:∀ x∈l,zan Tryz.prog f [nexD x,.own (d+1) nm 0 0] ([]::O) (bb (p x)) [] ([]::O)) :
  zan Tryz.prog 111 [.i (.sl 2 l.length (l.map nexI)),.fn (.func f) [] [.own d nm 0 0]] O (ii (zat p l 0)) [] O:=by
 generalize hR:zat p l 0=R
 refine zaa Tk Tryz.func111 rfl Tryz.call111 Tryz.ntmps111 (Nat.le_of_ble_eq_true rfl) fun E=>?_
 refine zag Tk Tryz.func111 ?_
 refine zae ?_
 refine zaj (fun i:Nat=>[(0,.i (.sl 2 l.length (l.map nexI))),(1,.fn (.func f) [] [.own (d+1) nm 0 0]),(6,.i (.sl 2 l.length (l.map nexI))),(7,ii l.length),(8,ii i)]) (fun _=>[]) (fun _=>O) 19
  (fun i=>i≤l.length∧zat p (l.drop i) i=R) (fun i=>l.length - i) 0 ⟨Nat.zero_le _,hR⟩ ⟨rfl,rfl,rfl,rfl,rfl,trivial⟩ rfl trivial rfl rfl ?_
 rintro i ⟨hi,hno⟩ ih
 clear hR
 refine zag Tk Tryz.func111 ?_
 refine zai Tk Tryz.func111 rfl (fun g1=>?_) (fun g1=>?_)
 ·have h1:i<l.length:=by simpa using g1
  have gs:(l.map nexI)[(i:Int).toNat]? = some (nexI l[i]):=zam h1
  have hps:=hp l[i] (List.getElem_mem h1)
  have hd:l.drop i=l[i]::l.drop (i+1):=List.drop_eq_getElem_cons h1
  rw[hd] at hno
  simp only[zat] at hno
  clear hd
  generalize l[i]=s at *
  refine zaf Tk Tryz.func111 (by exact⟨by omega,by show (i:Int)<(l.length:Int);omega⟩) ?_
  refine zaq Tk Tryz.func111 (gs) ?_
  refine zak Tk Tryz.func111 (hps) rfl rfl rfl rfl rfl ?_
  refine zai Tk Tryz.func111 rfl (fun g2=>?_) (fun g2=>?_)
  ·rw[if_pos g2] at hno
   subst hno
   refine zah Tk (r:=ii (i:Int)) rfl rfl rfl trivial rfl rfl ?_
   rfl
  ·have g2:p s=false:=g2
   rw[if_neg (by rw[g2];decide)] at hno
   refine zae ?_
   exact ih (i+1) _ _ ⟨h1,hno⟩ (by omega) ⟨rfl,rfl,rfl,rfl,congrArg ii (zaB h1 hl),trivial⟩ rfl trivial rfl rfl
 ·have h1:l.length≤i:=by simpa using g1
  rw[List.drop_eq_nil_of_le h1] at hno
  have hno:(-1:Int)=R:=hno
  subst hno
  refine zah Tk (r:=ii (-1)) rfl rfl rfl trivial rfl rfl ?_
  rfl
theorem zuK (O:List Heap) (l:List NCn) (f d nm:Nat) (p:NCn→Bool) (hl:l.length≤zao) (hp:∀ x∈l,zan Tryz.prog f [ncnD x,.own (d+1) nm 0 0] ([]::O) (bb (p x)) [] ([]::O)) :
  zan Tryz.prog 113 [.i (.sl 3 l.length (l.map ncnI)),.fn (.func f) [] [.own d nm 0 0]] O (ii (zat p l 0)) [] O:=by
 generalize hR:zat p l 0=R
 refine zaa Tk Tryz.func113 rfl Tryz.call113 Tryz.ntmps113 (Nat.le_of_ble_eq_true rfl) fun E=>?_
 refine zag Tk Tryz.func113 ?_
 refine zae ?_
 refine zaj (fun i:Nat=>[(0,.i (.sl 3 l.length (l.map ncnI))),(1,.fn (.func f) [] [.own (d+1) nm 0 0]),(6,.i (.sl 3 l.length (l.map ncnI))),(7,ii l.length),(8,ii i)]) (fun _=>[]) (fun _=>O) 19
  (fun i=>i≤l.length∧zat p (l.drop i) i=R) (fun i=>l.length - i) 0 ⟨Nat.zero_le _,hR⟩ ⟨rfl,rfl,rfl,rfl,rfl,trivial⟩ rfl trivial rfl rfl ?_
 rintro i ⟨hi,hno⟩ ih
 clear hR
 refine zag Tk Tryz.func113 ?_
 refine zai Tk Tryz.func113 rfl (fun g1=>?_) (fun g1=>?_)
 ·have h1:i<l.length:=by simpa using g1
  have gs:(l.map ncnI)[(i:Int).toNat]? = some (ncnI l[i]):=zam h1
  have hps:=hp l[i] (List.getElem_mem h1)
  have hd:l.drop i=l[i]::l.drop (i+1):=List.drop_eq_getElem_cons h1
  rw[hd] at hno
  simp only[zat] at hno
  clear hd
  generalize l[i]=s at *
  refine zaf Tk Tryz.func113 (by exact⟨by omega,by show (i:Int)<(l.length:Int);omega⟩) ?_
  refine zaq Tk Tryz.func113 (gs) ?_
  refine zak Tk Tryz.func113 (hps) rfl rfl rfl rfl rfl ?_
  refine zai Tk Tryz.func113 rfl (fun g2=>?_) (fun g2=>?_)
  ·rw[if_pos g2] at hno
   subst hno
   refine zah Tk (r:=ii (i:Int)) rfl rfl rfl trivial rfl rfl ?_
   rfl
  ·have g2:p s=false:=g2
   rw[if_neg (by rw[g2];decide)] at hno
   refine zae ?_
   exact ih (i+1) _ _ ⟨h1,hno⟩ (by omega) ⟨rfl,rfl,rfl,rfl,congrArg ii (zaB h1 hl),trivial⟩ rfl trivial rfl rfl
 ·have h1:l.length≤i:=by simpa using g1
  rw[List.drop_eq_nil_of_le h1] at hno
  have hno:(-1:Int)=R:=hno
  subst hno
  refine zah Tk (r:=ii (-1)) rfl rfl rfl trivial rfl rfl ?_
  rfl
theorem zuH (O:List Heap) (l:List NLc) (f d nm:Nat) (p:NLc→Bool) (hl:l.length≤zao) (hp:∀ x∈l,zan Tryz.prog f [nlcD x,.own (d+1) nm 0 0] ([]::O) (bb (p x)) [] ([]::O)) :
  zan Tryz.prog 224 [.i (.sl 2 l.length (l.map nlcI)),.fn (.func f) [] [.own d nm 0 0]] O (ii (zat p l 0)) [] O:=by
 generalize hR:zat p l 0=R
 refine zaa Tk Tryz.func224 rfl Tryz.call224 Tryz.ntmps224 (Nat.le_of_ble_eq_true rfl) fun E=>?_
 refine zag Tk Tryz.func224 ?_
 refine zae ?_
 refine zaj (fun i:Nat=>[(0,.i (.sl 2 l.length (l.map nlcI))),(1,.fn (.func f) [] [.own (d+1) nm 0 0]),(6,.i (.sl 2 l.length (l.map nlcI))),(7,ii l.length),(8,ii i)]) (fun _=>[]) (fun _=>O) 19
  (fun i=>i≤l.length∧zat p (l.drop i) i=R) (fun i=>l.length - i) 0 ⟨Nat.zero_le _,hR⟩ ⟨rfl,rfl,rfl,rfl,rfl,trivial⟩ rfl trivial rfl rfl ?_
 rintro i ⟨hi,hno⟩ ih
 clear hR
 refine zag Tk Tryz.func224 ?_
 refine zai Tk Tryz.func224 rfl (fun g1=>?_) (fun g1=>?_)
 ·have h1:i<l.length:=by simpa using g1
  have gs:(l.map nlcI)[(i:Int).toNat]? = some (nlcI l[i]):=zam h1
  have hps:=hp l[i] (List.getElem_mem h1)
  have hd:l.drop i=l[i]::l.drop (i+1):=List.drop_eq_getElem_cons h1
  rw[hd] at hno
  simp only[zat] at hno
  clear hd
  generalize l[i]=s at *
  refine zaf Tk Tryz.func224 (by exact⟨by omega,by show (i:Int)<(l.length:Int);omega⟩) ?_
  refine zaq Tk Tryz.func224 (gs) ?_
  refine zak Tk Tryz.func224 (hps) rfl rfl rfl rfl rfl ?_
  refine zai Tk Tryz.func224 rfl (fun g2=>?_) (fun g2=>?_)
  ·rw[if_pos g2] at hno
   subst hno
   refine zah Tk (r:=ii (i:Int)) rfl rfl rfl trivial rfl rfl ?_
   rfl
  ·have g2:p s=false:=g2
   rw[if_neg (by rw[g2];decide)] at hno
   refine zae ?_
   exact ih (i+1) _ _ ⟨h1,hno⟩ (by omega) ⟨rfl,rfl,rfl,rfl,congrArg ii (zaB h1 hl),trivial⟩ rfl trivial rfl rfl
 ·have h1:l.length≤i:=by simpa using g1
  rw[List.drop_eq_nil_of_le h1] at hno
  have hno:(-1:Int)=R:=hno
  subst hno
  refine zah Tk (r:=ii (-1)) rfl rfl rfl trivial rfl rfl ?_
  rfl
theorem zuJ (O:List Heap) (l:List ByteArray) (f d nm:Nat) (p:ByteArray→Bool) (hl:l.length≤zao) (hp:∀ x∈l,zan Tryz.prog f [sD x,.own (d+1) nm 0 0] ([]::O) (bb (p x)) [] ([]::O)) :
  zan Tryz.prog 163 [.i (.sl 1 l.length (l.map (fun s=>[strI s]))),.fn (.func f) [] [.own d nm 0 0]] O (ii (zat p l 0)) [] O:=by
 generalize hR:zat p l 0=R
 refine zaa Tk Tryz.func163 rfl Tryz.call163 Tryz.ntmps163 (Nat.le_of_ble_eq_true rfl) fun E=>?_
 refine zag Tk Tryz.func163 ?_
 refine zae ?_
 refine zaj (fun i:Nat=>[(0,.i (.sl 1 l.length (l.map (fun s=>[strI s])))),(1,.fn (.func f) [] [.own (d+1) nm 0 0]),(6,.i (.sl 1 l.length (l.map (fun s=>[strI s])))),(7,ii l.length),(8,ii i)]) (fun _=>[]) (fun _=>O) 19
  (fun i=>i≤l.length∧zat p (l.drop i) i=R) (fun i=>l.length - i) 0 ⟨Nat.zero_le _,hR⟩ ⟨rfl,rfl,rfl,rfl,rfl,trivial⟩ rfl trivial rfl rfl ?_
 rintro i ⟨hi,hno⟩ ih
 clear hR
 refine zag Tk Tryz.func163 ?_
 refine zai Tk Tryz.func163 rfl (fun g1=>?_) (fun g1=>?_)
 ·have h1:i<l.length:=by simpa using g1
  have gs:(l.map (fun s=>[strI s]))[(i:Int).toNat]? = some ((fun s=>[strI s]) l[i]):=zam h1
  have hps:=hp l[i] (List.getElem_mem h1)
  have hd:l.drop i=l[i]::l.drop (i+1):=List.drop_eq_getElem_cons h1
  rw[hd] at hno
  simp only[zat] at hno
  clear hd
  generalize l[i]=s at *
  refine zaf Tk Tryz.func163 (by exact⟨by omega,by show (i:Int)<(l.length:Int);omega⟩) ?_
  refine zaq Tk Tryz.func163 (gs) ?_
  refine zak Tk Tryz.func163 (hps) rfl rfl rfl rfl rfl ?_
  refine zai Tk Tryz.func163 rfl (fun g2=>?_) (fun g2=>?_)
  ·rw[if_pos g2] at hno
   subst hno
   refine zah Tk (r:=ii (i:Int)) rfl rfl rfl trivial rfl rfl ?_
   rfl
  ·have g2:p s=false:=g2
   rw[if_neg (by rw[g2];decide)] at hno
   refine zae ?_
   exact ih (i+1) _ _ ⟨h1,hno⟩ (by omega) ⟨rfl,rfl,rfl,rfl,congrArg ii (zaB h1 hl),trivial⟩ rfl trivial rfl rfl
 ·have h1:l.length≤i:=by simpa using g1
  rw[List.drop_eq_nil_of_le h1] at hno
  have hno:(-1:Int)=R:=hno
  subst hno
  refine zah Tk (r:=ii (-1)) rfl rfl rfl trivial rfl rfl ?_
  rfl
theorem zuG (O:List Heap) (l:List NTm) (f d nm:Nat) (p:NTm→Bool) (hl:l.length≤zao) (hp:∀ x∈l,zan Tryz.prog f [ntmD x,.own (d+1) nm 0 0] ([]::O) (bb (p x)) [] ([]::O)) :
  zan Tryz.prog 225 [.i (.sl 2 l.length (l.map ntmI)),.fn (.func f) [] [.own d nm 0 0]] O (ii (zat p l 0)) [] O:=by
 generalize hR:zat p l 0=R
 refine zaa Tk Tryz.func225 rfl Tryz.call225 Tryz.ntmps225 (Nat.le_of_ble_eq_true rfl) fun E=>?_
 refine zag Tk Tryz.func225 ?_
 refine zae ?_
 refine zaj (fun i:Nat=>[(0,.i (.sl 2 l.length (l.map ntmI))),(1,.fn (.func f) [] [.own (d+1) nm 0 0]),(6,.i (.sl 2 l.length (l.map ntmI))),(7,ii l.length),(8,ii i)]) (fun _=>[]) (fun _=>O) 19
  (fun i=>i≤l.length∧zat p (l.drop i) i=R) (fun i=>l.length - i) 0 ⟨Nat.zero_le _,hR⟩ ⟨rfl,rfl,rfl,rfl,rfl,trivial⟩ rfl trivial rfl rfl ?_
 rintro i ⟨hi,hno⟩ ih
 clear hR
 refine zag Tk Tryz.func225 ?_
 refine zai Tk Tryz.func225 rfl (fun g1=>?_) (fun g1=>?_)
 ·have h1:i<l.length:=by simpa using g1
  have gs:(l.map ntmI)[(i:Int).toNat]? = some (ntmI l[i]):=zam h1
  have hps:=hp l[i] (List.getElem_mem h1)
  have hd:l.drop i=l[i]::l.drop (i+1):=List.drop_eq_getElem_cons h1
  rw[hd] at hno
  simp only[zat] at hno
  clear hd
  generalize l[i]=s at *
  refine zaf Tk Tryz.func225 (by exact⟨by omega,by show (i:Int)<(l.length:Int);omega⟩) ?_
  refine zaq Tk Tryz.func225 (gs) ?_
  refine zak Tk Tryz.func225 (hps) rfl rfl rfl rfl rfl ?_
  refine zai Tk Tryz.func225 rfl (fun g2=>?_) (fun g2=>?_)
  ·rw[if_pos g2] at hno
   subst hno
   refine zah Tk (r:=ii (i:Int)) rfl rfl rfl trivial rfl rfl ?_
   rfl
  ·have g2:p s=false:=g2
   rw[if_neg (by rw[g2];decide)] at hno
   refine zae ?_
   exact ih (i+1) _ _ ⟨h1,hno⟩ (by omega) ⟨rfl,rfl,rfl,rfl,congrArg ii (zaB h1 hl),trivial⟩ rfl trivial rfl rfl
 ·have h1:l.length≤i:=by simpa using g1
  rw[List.drop_eq_nil_of_le h1] at hno
  have hno:(-1:Int)=R:=hno
  subst hno
  refine zah Tk (r:=ii (-1)) rfl rfl rfl trivial rfl rfl ?_
  rfl
theorem zlh (O:List Heap) (l:List NLc) (f d nm:Nat) (p:NLc→Bool) (hl:l.length≤zao) (hp:∀ x∈l,zan Tryz.prog f [nlcD x,.own (d+2) nm 0 0] ([]::[]::O) (bb (p x)) [] ([]::[]::O)) :
  zan Tryz.prog 165 [.i (.sl 2 l.length (l.map nlcI)),.fn (.func f) [] [.own d nm 0 0]] O (bb (l.any p)) [] O:=by
 have h:=fun O hp=>zuH O l f (d+1) nm p hl hp
 rw[← zbn p l 0]
 generalize zat p l 0=R at *
 refine zaa Tk Tryz.func165 rfl Tryz.call165 Tryz.ntmps165 (Nat.le_of_ble_eq_true rfl) fun E=>?_
 refine zag Tk Tryz.func165 ?_
 refine zak Tk Tryz.func165 (h _ hp) rfl rfl rfl rfl rfl ?_
 refine zah Tk (r:=bb (decide (R ≥ 0))) rfl rfl rfl trivial rfl rfl ?_
 rfl
theorem zlg (O:List Heap) (l:List NTm) (f d nm:Nat) (p:NTm→Bool) (hl:l.length≤zao) (hp:∀ x∈l,zan Tryz.prog f [ntmD x,.own (d+2) nm 0 0] ([]::[]::O) (bb (p x)) [] ([]::[]::O)) :
  zan Tryz.prog 168 [.i (.sl 2 l.length (l.map ntmI)),.fn (.func f) [] [.own d nm 0 0]] O (bb (l.any p)) [] O:=by
 have h:=fun O hp=>zuG O l f (d+1) nm p hl hp
 rw[← zbn p l 0]
 generalize zat p l 0=R at *
 refine zaa Tk Tryz.func168 rfl Tryz.call168 Tryz.ntmps168 (Nat.le_of_ble_eq_true rfl) fun E=>?_
 refine zag Tk Tryz.func168 ?_
 refine zak Tk Tryz.func168 (h _ hp) rfl rfl rfl rfl rfl ?_
 refine zah Tk (r:=bb (decide (R ≥ 0))) rfl rfl rfl trivial rfl rfl ?_
 rfl
theorem zlj (O:List Heap) (l:List ByteArray) (f d nm:Nat) (p:ByteArray→Bool) (hl:l.length≤zao) (hp:∀ x∈l,zan Tryz.prog f [sD x,.own (d+2) nm 0 0] ([]::[]::O) (bb (p x)) [] ([]::[]::O)) :
  zan Tryz.prog 122 [.i (.sl 1 l.length (l.map (fun s=>[strI s]))),.fn (.func f) [] [.own d nm 0 0]] O (bb (l.any p)) [] O:=by
 have h:=fun O hp=>zuJ O l f (d+1) nm p hl hp
 rw[← zbn p l 0]
 generalize zat p l 0=R at *
 refine zaa Tk Tryz.func122 rfl Tryz.call122 Tryz.ntmps122 (Nat.le_of_ble_eq_true rfl) fun E=>?_
 refine zag Tk Tryz.func122 ?_
 refine zak Tk Tryz.func122 (h _ hp) rfl rfl rfl rfl rfl ?_
 refine zah Tk (r:=bb (decide (R ≥ 0))) rfl rfl rfl trivial rfl rfl ?_
 rfl
theorem zws (O:List Heap) (x:Evt) (s:ByteArray) (d nm:Nat) (ho:zab O d nm=some (.box [sD s])):zan Tryz.prog 105 [evtD x,.own d nm 0 0] O (bb (sB x.name s)) [] O:=by
 rw[← za7]
 refine zaa Tk Tryz.func105 rfl Tryz.call105 Tryz.ntmps105 (Nat.le_of_ble_eq_true rfl) fun E=>?_
 refine zag Tk Tryz.func105 ?_
 refine zbz Tk Tryz.func105 (ho) ?_
 refine zah Tk (r:=bb (x.name.toList==s.toList)) rfl rfl rfl trivial rfl rfl ?_
 rfl
theorem zwr (O:List Heap) (x:Tpl) (s:ByteArray) (d nm:Nat) (ho:zab O d nm=some (.box [sD s])):zan Tryz.prog 107 [tplD x,.own d nm 0 0] O (bb (sB x.name s)) [] O:=by
 rw[← za7]
 refine zaa Tk Tryz.func107 rfl Tryz.call107 Tryz.ntmps107 (Nat.le_of_ble_eq_true rfl) fun E=>?_
 refine zag Tk Tryz.func107 ?_
 refine zbz Tk Tryz.func107 (ho) ?_
 refine zah Tk (r:=bb (x.name.toList==s.toList)) rfl rfl rfl trivial rfl rfl ?_
 rfl
theorem zwq (O:List Heap) (x:Ins) (s:ByteArray) (d nm:Nat) (ho:zab O d nm=some (.box [sD s])):zan Tryz.prog 109 [insD x,.own d nm 0 0] O (bb (sB x.name s)) [] O:=by
 rw[← za7]
 refine zaa Tk Tryz.func109 rfl Tryz.call109 Tryz.ntmps109 (Nat.le_of_ble_eq_true rfl) fun E=>?_
 refine zag Tk Tryz.func109 ?_
 refine zbz Tk Tryz.func109 (ho) ?_
 refine zah Tk (r:=bb (x.name.toList==s.toList)) rfl rfl rfl trivial rfl rfl ?_
 rfl
theorem zwp (O:List Heap) (x:Ins) (s:ByteArray) (d nm:Nat) (ho:zab O d nm=some (.box [sD s])):zan Tryz.prog 110 [insD x,.own d nm 0 0] O (bb (sB x.name s)) [] O:=by
 rw[← za7]
 refine zaa Tk Tryz.func110 rfl Tryz.call110 Tryz.ntmps110 (Nat.le_of_ble_eq_true rfl) fun E=>?_
 refine zag Tk Tryz.func110 ?_
 refine zbz Tk Tryz.func110 (ho) ?_
 refine zah Tk (r:=bb (x.name.toList==s.toList)) rfl rfl rfl trivial rfl rfl ?_
 rfl
theorem zwo (O:List Heap) (x:NEx) (s:ByteArray) (d nm:Nat) (ho:zab O d nm=some (.box [sD s])):zan Tryz.prog 112 [nexD x,.own d nm 0 0] O (bb (sB x.name s)) [] O:=by
 rw[← za7]
 refine zaa Tk Tryz.func112 rfl Tryz.call112 Tryz.ntmps112 (Nat.le_of_ble_eq_true rfl) fun E=>?_
 refine zag Tk Tryz.func112 ?_
 refine zbz Tk Tryz.func112 (ho) ?_
 refine zah Tk (r:=bb (x.name.toList==s.toList)) rfl rfl rfl trivial rfl rfl ?_
 rfl
theorem zwn (O:List Heap) (x:NCn) (s:ByteArray) (d nm:Nat) (ho:zab O d nm=some (.box [sD s])):zan Tryz.prog 114 [ncnD x,.own d nm 0 0] O (bb (sB x.name s)) [] O:=by
 rw[← za7]
 refine zaa Tk Tryz.func114 rfl Tryz.call114 Tryz.ntmps114 (Nat.le_of_ble_eq_true rfl) fun E=>?_
 refine zag Tk Tryz.func114 ?_
 refine zbz Tk Tryz.func114 (ho) ?_
 refine zah Tk (r:=bb (x.name.toList==s.toList)) rfl rfl rfl trivial rfl rfl ?_
 rfl
theorem zwm (O:List Heap) (x:NLc) (s:ByteArray) (s2:ByteArray) (d nm:Nat) (ho:zab O d nm=some (.box [sD s,sD s2])):zan Tryz.prog 166 [nlcD x,.own d nm 0 0] O (bb (sB x.1 s)) [] O:=by
 rw[← za7]
 refine zaa Tk Tryz.func166 rfl Tryz.call166 Tryz.ntmps166 (Nat.le_of_ble_eq_true rfl) fun E=>?_
 refine zag Tk Tryz.func166 ?_
 refine zbz Tk Tryz.func166 (ho) ?_
 refine zah Tk (r:=bb (x.1.toList==s.toList)) rfl rfl rfl trivial rfl rfl ?_
 rfl
theorem zwl (O:List Heap) (x:NTm) (s:ByteArray) (s2:Int) (d nm:Nat) (ho:zab O d nm=some (.box [sD s,ii s2])):zan Tryz.prog 169 [ntmD x,.own d nm 0 0] O (bb (sB x.1 s)) [] O:=by
 rw[← za7]
 refine zaa Tk Tryz.func169 rfl Tryz.call169 Tryz.ntmps169 (Nat.le_of_ble_eq_true rfl) fun E=>?_
 refine zag Tk Tryz.func169 ?_
 refine zbz Tk Tryz.func169 (ho) ?_
 refine zah Tk (r:=bb (x.1.toList==s.toList)) rfl rfl rfl trivial rfl rfl ?_
 rfl
theorem znh (O:List Heap) (l:List ByteArray) (s:ByteArray) (hl:l.length≤zao):zan Tryz.prog 164 [ssD l,sD s] O (ii (nmIx l s)) [] O:=by
 have e:nmIx l s=zat (fun x=>s.toList==x.toList) l 0:=by
  unfold nmIx
  congr 1
  funext x
  rw[za7,zwt]
 rw[e]
 generalize hR:zat (fun x=>s.toList==x.toList) l 0=R
 refine zaa Tk Tryz.func164 rfl Tryz.call164 Tryz.ntmps164 (Nat.le_of_ble_eq_true rfl) fun E=>?_
 refine zag Tk Tryz.func164 ?_
 refine zae ?_
 refine zaj (fun i:Nat=>[(0,ssD l),(1,sD s),(6,ssD l),(7,ii l.length),(8,ii i)]) (fun _=>[]) (fun _=>O) 19
  (fun i=>i≤l.length∧zat (fun x=>s.toList==x.toList) (l.drop i) i=R) (fun i=>l.length - i) 0 ⟨Nat.zero_le _,hR⟩ ⟨rfl,rfl,rfl,rfl,rfl,trivial⟩ rfl trivial rfl rfl ?_
 rintro i ⟨hi,hno⟩ ih
 clear hR
 refine zag Tk Tryz.func164 ?_
 refine zai Tk Tryz.func164 rfl (fun g1=>?_) (fun g1=>?_)
 ·have h1:i<l.length:=by simpa using g1
  have gs:(l.map fun s=>[strI s])[(i:Int).toNat]? = some [strI l[i]]:=zam (f:=fun s=>[strI s]) h1
  have hd:l.drop i=l[i]::l.drop (i+1):=List.drop_eq_getElem_cons h1
  rw[hd] at hno
  simp only[zat] at hno
  clear hd
  generalize l[i]=x at *
  refine zaf Tk Tryz.func164 (by exact⟨by omega,by show (i:Int)<(l.length:Int);omega⟩) ?_
  refine zaq Tk Tryz.func164 (gs) ?_
  refine zai Tk Tryz.func164 rfl (fun g2=>?_) (fun g2=>?_)
  ·have g2:(s.toList==x.toList)=true:=g2
   rw[if_pos g2] at hno
   subst hno
   refine zah Tk (r:=ii (i:Int)) rfl rfl rfl trivial rfl rfl ?_
   rfl
  ·have g2:(s.toList==x.toList)=false:=g2
   rw[if_neg (by rw[g2];decide)] at hno
   refine zae ?_
   exact ih (i+1) _ _ ⟨h1,hno⟩ (by omega) ⟨rfl,rfl,rfl,rfl,congrArg ii (zaB h1 hl),trivial⟩ rfl trivial rfl rfl
 ·have h1:l.length≤i:=by simpa using g1
  rw[List.drop_eq_nil_of_le h1] at hno
  have hno:(-1:Int)=R:=hno
  subst hno
  refine zah Tk (r:=ii (-1)) rfl rfl rfl trivial rfl rfl ?_
  rfl
theorem zcc (O:List Heap) (l:List ByteArray) (s:ByteArray) (hl:l.length≤zao):zan Tryz.prog 124 [ssD l,sD s] O (bb (hasB l s)) [] O:=by
 have h:=fun O=>znh O l s hl
 have e:hasB l s=decide (nmIx l s ≥ 0):=(zbn (fun x=>sB x s) l 0).symm
 rw[e]
 generalize nmIx l s=R at *
 refine zaa Tk Tryz.func124 rfl Tryz.call124 Tryz.ntmps124 (Nat.le_of_ble_eq_true rfl) fun E=>?_
 refine zag Tk Tryz.func124 ?_
 refine zak Tk Tryz.func124 (h _) rfl rfl rfl rfl rfl ?_
 refine zah Tk (r:=bb (decide (R ≥ 0))) rfl rfl rfl trivial rfl rfl ?_
 rfl
theorem zgF {b:Bool} (h:b=false):¬ b=true:=by rw[h];decide
theorem zgl {α:Type} (f:α→List I) (es:Nat) {l:List α} {i:Nat} (h:i≤l.length):I.sl es (l.take i).length ((l.take i).map f)=I.sl es i ((l.map f).take i):=by rw[List.length_take,Nat.min_eq_left h,List.map_take]
theorem zw8 (O:List Heap) (b:List ByteArray) (s:ByteArray) (hl:b.length≤1000000) (hs:s.size≤zao):zan Tryz.prog 119 [ssD (b++[s])] O (ii (nmE b s)) [] O:=by
 have w1:IntKind.i64.wrap (((b++[s]).length:Int) - 1)=(b.length:Int):=by rw[List.length_append,List.length_singleton,w64 (by omega) (by omega)];omega
 have hlen:(b++[s]).length=b.length+1:=by simp
 have gs:((b++[s]).map fun s=>[strI s])[(IntKind.i64.wrap (((b++[s]).length:Int) - 1)).toNat]? = some [strI s]:=by rw[w1];simp
 have eT:I.sl 1 (IntKind.i64.wrap (((b++[s]).length:Int) - 1)).toNat (((b++[s]).map fun s=>[strI s]).take (IntKind.i64.wrap (((b++[s]).length:Int) - 1)).toNat)=zhi b:=by rw[w1];simp[zhi]
 have hn:=fun O=>ze1 O s hs
 have hc:∀ O,zan Tryz.prog 124 [.i (.sl 1 (IntKind.i64.wrap (((b++[s]).length:Int) - 1)).toNat (((b++[s]).map fun s=>[strI s]).take (IntKind.i64.wrap (((b++[s]).length:Int) - 1)).toNat)),sD s] O (bb (hasB b s)) [] O:=fun O=>by
  rw[eT];exact zcc O b s (by simp only[zao];omega)
 unfold nmE
 generalize zaT s=nb at *
 generalize hasB b s=hb at *
 refine zaa Tk Tryz.func119 rfl Tryz.call119 Tryz.ntmps119 (Nat.le_of_ble_eq_true rfl) fun E=>?_
 refine zag Tk Tryz.func119 ?_
 refine zaf Tk Tryz.func119 (by rw[w1,hlen];omega) ?_
 refine zaq Tk Tryz.func119 (gs) ?_
 refine zak Tk Tryz.func119 (hn _) rfl rfl rfl rfl rfl ?_
 refine zai Tk Tryz.func119 rfl (fun c1=>?_) (fun c1=>?_)
 ·have c1:nb=false:=by simpa using c1
  rw[if_pos c1]
  refine zah Tk (r:=ii 7) rfl rfl rfl trivial rfl rfl ?_
  rfl
 have c1:¬ nb=false:=by simpa using c1
 rw[if_neg c1]
 refine zaf Tk Tryz.func119 (by rw[w1,hlen];omega) ?_
 refine zak Tk Tryz.func119 (hc _) rfl rfl rfl rfl rfl ?_
 refine zai Tk Tryz.func119 rfl (fun c2=>?_) (fun c2=>?_)
 ·have c2:hb=true:=c2
  rw[if_pos c2]
  refine zah Tk (r:=ii 8) rfl rfl rfl trivial rfl rfl ?_
  rfl
 have c2:hb=false:=c2
 rw[if_neg (zgF c2)]
 refine zah Tk (r:=ii 0) rfl rfl rfl trivial rfl rfl ?_
 rfl
theorem zm3 (O:List Heap) (l:List ByteArray) (hl:l.length≤1000000) (hs:∀ s∈l,s.size≤zao):zan Tryz.prog 162 [ssD l] O (ii (nmsE [] l)) [] O:=by
 generalize hR:nmsE [] l=R
 refine zaa Tk Tryz.func162 rfl Tryz.call162 Tryz.ntmps162 (Nat.le_of_ble_eq_true rfl) fun E=>?_
 refine zag Tk Tryz.func162 ?_
 refine zae ?_
 refine zaj (fun i:Nat=>[(0,ssD l),(5,ssD l),(6,ii l.length),(7,ii i)]) (fun _=>[]) (fun _=>O) 23
  (fun i=>i≤l.length∧nmsE (l.take i) (l.drop i)=R) (fun i=>l.length - i) 0 ⟨Nat.zero_le _,hR⟩ ⟨rfl,rfl,rfl,rfl,trivial⟩ rfl trivial rfl rfl ?_
 rintro i ⟨hi,hno⟩ ih
 clear hR
 refine zag Tk Tryz.func162 ?_
 refine zai Tk Tryz.func162 rfl (fun g1=>?_) (fun g1=>?_)
 ·have h1:i<l.length:=by simpa using g1
  have gs:(l.map fun s=>[strI s])[(i:Int).toNat]? = some [strI l[i]]:=zam (f:=fun s=>[strI s]) h1
  have ht:l.take (i+1)=l.take i++[l[i]]:=List.take_succ_eq_append_getElem h1
  rw[List.drop_eq_getElem_cons h1] at hno
  simp only[nmsE,← ht] at hno
  have hn:=fun O=>ze1 O l[i] (hs _ (List.getElem_mem h1))
  have hc:∀ O,zan Tryz.prog 124 [.i (.sl 1 i ((l.map fun s=>[strI s]).take i)),sD l[i]] O (bb (hasB (l.take i) l[i])) [] O:=fun O=>by
   rw[← zgl (fun s=>[strI s]) 1 hi]
   exact zcc O (l.take i) l[i] (by rw[List.length_take];simp only[zao];omega)
  unfold nmE at hno
  generalize zaT l[i]=nb at *
  generalize hasB (l.take i) l[i]=hb at *
  generalize l[i]=x at *
  refine zaf Tk Tryz.func162 (by exact⟨by omega,by show (i:Int)<(l.length:Int);omega⟩) ?_
  refine zaq Tk Tryz.func162 (gs) ?_
  refine zak Tk Tryz.func162 (hn _) rfl rfl rfl rfl rfl ?_
  refine zai Tk Tryz.func162 rfl (fun c1=>?_) (fun c1=>?_)
  ·have c1:nb=false:=by simpa using c1
   rw[if_pos c1] at hno
   rw[if_pos (by decide)] at hno
   subst hno
   refine zah Tk (r:=ii 7) rfl rfl rfl trivial rfl rfl ?_
   rfl
  have c1:¬ nb=false:=by simpa using c1
  rw[if_neg c1] at hno
  refine zaf Tk Tryz.func162 (by exact⟨by omega,by show (i:Int)≤(l.length:Int);omega⟩) ?_
  refine zak Tk Tryz.func162 (hc _) rfl rfl rfl rfl rfl ?_
  refine zai Tk Tryz.func162 rfl (fun c2=>?_) (fun c2=>?_)
  ·have c2:hb=true:=c2
   rw[if_pos c2,if_pos (by decide)] at hno
   subst hno
   refine zah Tk (r:=ii 8) rfl rfl rfl trivial rfl rfl ?_
   rfl
  have c2:hb=false:=c2
  rw[if_neg (zgF c2),if_neg (by decide)] at hno
  refine zae ?_
  exact ih (i+1) _ _ ⟨h1,hno⟩ (by omega) ⟨rfl,rfl,rfl,congrArg ii (zaB (n:=1000001) (by omega) (by decide)),trivial⟩ rfl trivial rfl rfl
 ·have h1:l.length≤i:=by simpa using g1
  rw[List.drop_eq_nil_of_le h1] at hno
  have hno:(0:Int)=R:=hno
  subst hno
  refine zah Tk (r:=ii 0) rfl rfl rfl trivial rfl rfl ?_
  rfl
structure tplOk (x:Tpl):Prop where
 nm:x.name.size≤zao
 ll:x.locs.length≤1000000
 ls:∀ s∈x.locs,s.size≤zao
 el:x.evs.length≤1000000
 es:∀ s∈x.evs,s.size≤zao
 mo:extOk x.mach
theorem zrc {l:List Int} {n:Nat} (hl:l.length=n):l=(List.range n).map (fun k=>((k:Nat):Int)) ↔ ∀ j (h:j<l.length),l[j]=(j:Int):=by
 constructor
 ·intro e j h
  have:l[j]? = ((List.range n).map (fun k=>((k:Nat):Int)))[j]?:=by rw[← e]
  rw[List.getElem?_eq_getElem h,List.getElem?_map,List.getElem?_range (by omega)] at this
  simpa using this
 ·intro h
  apply List.ext_getElem
  ·simp[hl]
  ·intro j h1 h2
   rw[h j h1]
   simp
theorem zfY (O:List Heap) (x:Tpl) (hx:tplOk x):zan Tryz.prog 120 [tplD x] O (ii (tplE x)) [] O:=by
 have h1:=fun O=>zm3 O x.locs hx.ll hx.ls
 have h2:=fun O=>zm3 O x.evs hx.el hx.es
 have h3:=fun O=>zlo O x.mach hx.mo
 have hal:=hx.mo.al
 have hel:=hx.el
 unfold tplE
 generalize nmsE [] x.locs=e1 at *
 generalize nmsE [] x.evs=e2 at *
 generalize chk x.mach=e3 at *
 obtain⟨nm,locs,evs,⟨al,lo,ini,mk,vr,mo⟩⟩:=x
 simp only at h1 h2 h3 hal hel ⊢
 refine zaa Tk Tryz.func120 rfl Tryz.call120 Tryz.ntmps120 (Nat.le_of_ble_eq_true rfl) fun E=>?_
 refine zag Tk Tryz.func120 ?_
 refine zai Tk Tryz.func120 rfl (fun c1=>?_) (fun c1=>?_)
 ·have c1:(locs.length:Int)≠lo:=bneT c1
  rw[if_pos c1]
  refine zah Tk (r:=ii 4) rfl rfl rfl trivial rfl rfl ?_
  rfl
 have c1:¬ (locs.length:Int)≠lo:=fun h=>h (bneF c1)
 rw[if_neg c1]
 refine zak Tk Tryz.func120 (h1 _) rfl rfl rfl rfl rfl ?_
 refine zai Tk Tryz.func120 rfl (fun c2=>?_) (fun c2=>?_)
 ·have c2:e1≠0:=bneT c2
  rw[if_pos c2]
  refine zah Tk (r:=ii e1) rfl rfl rfl trivial rfl rfl ?_
  rfl
 have c2:¬ e1≠0:=fun h=>h (bneF c2)
 rw[if_neg c2]
 refine zak Tk Tryz.func120 (h2 _) rfl rfl rfl rfl rfl ?_
 refine zai Tk Tryz.func120 rfl (fun c3=>?_) (fun c3=>?_)
 ·have c3:e2≠0:=bneT c3
  rw[if_pos c3]
  refine zah Tk (r:=ii e2) rfl rfl rfl trivial rfl rfl ?_
  rfl
 have c3:¬ e2≠0:=fun h=>h (bneF c3)
 rw[if_neg c3]
 refine zai Tk Tryz.func120 rfl (fun c4=>?_) (fun c4=>?_)
 ·have c4:(al.length:Int)≠(evs.length:Int):=bneT c4
  rw[if_pos (by omega)]
  refine zah Tk (r:=ii 6) rfl rfl rfl trivial rfl rfl ?_
  rfl
 have c4:al.length=evs.length:=by have:(al.length:Int)=(evs.length:Int):=bneF c4;omega
 rw[if_neg (by omega)]
 refine zae ?_
 refine zaj (fun i:Nat=>[(1,.own 0 1 0 0),(36,ints al),(37,ii al.length),(38,ii i)]) (fun _=>[(1,.box (tplC ⟨nm,locs,evs,⟨al,lo,ini,mk,vr,mo⟩⟩))]) (fun _=>O) 50
  (fun i=>i≤al.length∧∀ j (h:j<al.length),j<i→al[j]=(j:Int)) (fun i=>al.length - i) 0 ⟨Nat.zero_le _,fun j _ h=>absurd h (Nat.not_lt_zero _)⟩ ⟨rfl,rfl,rfl,rfl,trivial⟩ rfl ⟨rfl,trivial⟩ rfl rfl ?_
 rintro i ⟨hi,hno⟩ ih
 refine zag Tk Tryz.func120 ?_
 refine zai Tk Tryz.func120 rfl (fun g1=>?_) (fun g1=>?_)
 ·have g1:i<al.length:=by simpa using g1
  have gx:(al.map fun x=>[vi x])[(i:Int).toNat]? = some [vi al[i]]:=zam (f:=fun x=>[vi x]) g1
  refine zaf Tk Tryz.func120 (by exact⟨by omega,by show (i:Int)<(al.length:Int);omega⟩) ?_
  refine zaq Tk Tryz.func120 (gx) ?_
  refine zai Tk Tryz.func120 rfl (fun c5=>?_) (fun c5=>?_)
  ·have c5:al[i]≠(i:Int):=bneT c5
   rw[if_pos fun e=>c5 ((zrc c4).1 e i g1)]
   refine zah Tk (r:=ii 6) rfl rfl rfl trivial rfl rfl ?_
   rfl
  have c5:al[i]=(i:Int):=bneF c5
  refine zae ?_
  refine ih (i+1) _ _ ⟨g1,fun j hj h=>?_⟩ (by omega) ⟨rfl,rfl,rfl,congrArg ii (zaB (n:=zao) (by omega) (by decide)),trivial⟩ rfl ⟨rfl,trivial⟩ rfl rfl
  by_cases e:j=i
  ·subst e;exact c5
  ·exact hno j hj (by omega)
 ·have g1:al.length≤i:=by simpa using g1
  rw[if_neg (fun h=>h ((zrc c4).2 fun j hj=>hno j hj (by omega)))]
  refine zak Tk Tryz.func120 (h3 _) rfl rfl rfl rfl rfl ?_
  refine zah Tk (r:=ii e3) rfl rfl rfl trivial rfl rfl ?_
  rfl
def namK (m:Mdl) (k:Int):List ByteArray:=
 if k=1 then m.evs.map (·.name) else if k=2 then m.tpls.map (·.name) else if k=3 then m.comps.map (·.name) else if k=4 then m.reqs.map (·.name) else if k=5 then m.excs.map (·.name) else if k=6 then m.cons.map (·.name) else []
abbrev fnd0 (R:Int):Int:=if R<0 then 0 else R
abbrev fndD (R:Int):D:=.tup [ii (fnd0 R),bb (decide (0≤R))]
structure szOk (m:Mdl):Prop where
 ev:m.evs.length≤1000000
 tp:m.tpls.length≤1000000
 co:m.comps.length≤1000000
 rq:m.reqs.length≤1000000
 ex:m.excs.length≤1000000
 cn:m.cons.length≤1000000
theorem zei (O:List Heap) (m:Mdl) (k:Int) (s:ByteArray) (hm:szOk m):zan Tryz.prog 38 [mdlD m,ii k,sD s] O (fndD (nmIx (namK m k) s)) [] O:=by
 have i1:=fun O d nm ho=>zuN O m.evs 105 d nm (fun x=>sB x.name s) (by have:=hm.ev;simp only[zao];omega) fun x _=>zws _ x s (d+1) nm (zav ho)
 have i2:=fun O d nm ho=>zuM O m.tpls 107 d nm (fun x=>sB x.name s) (by have:=hm.tp;simp only[zao];omega) fun x _=>zwr _ x s (d+1) nm (zav ho)
 have i3:=fun O d nm ho=>zni O m.comps 109 d nm (fun x=>sB x.name s) (by have:=hm.co;simp only[zao];omega) fun x _=>zwq _ x s (d+1) nm (zav ho)
 have i4:=fun O d nm ho=>zni O m.reqs 110 d nm (fun x=>sB x.name s) (by have:=hm.rq;simp only[zao];omega) fun x _=>zwp _ x s (d+1) nm (zav ho)
 have i5:=fun O d nm ho=>zuL O m.excs 112 d nm (fun x=>sB x.name s) (by have:=hm.ex;simp only[zao];omega) fun x _=>zwo _ x s (d+1) nm (zav ho)
 have i6:=fun O d nm ho=>zuK O m.cons 114 d nm (fun x=>sB x.name s) (by have:=hm.cn;simp only[zao];omega) fun x _=>zwn _ x s (d+1) nm (zav ho)
 have e1:nmIx (m.evs.map (·.name)) s=zat (fun x=>sB x.name s) m.evs 0:=zbR (fun x=>sB x s) Evt.name _ _
 have e2:nmIx (m.tpls.map (·.name)) s=zat (fun x=>sB x.name s) m.tpls 0:=zbR (fun x=>sB x s) Tpl.name _ _
 have e3:nmIx (m.comps.map (·.name)) s=zat (fun x=>sB x.name s) m.comps 0:=zbR (fun x=>sB x s) Ins.name _ _
 have e4:nmIx (m.reqs.map (·.name)) s=zat (fun x=>sB x.name s) m.reqs 0:=zbR (fun x=>sB x s) Ins.name _ _
 have e5:nmIx (m.excs.map (·.name)) s=zat (fun x=>sB x.name s) m.excs 0:=zbR (fun x=>sB x s) NEx.name _ _
 have e6:nmIx (m.cons.map (·.name)) s=zat (fun x=>sB x.name s) m.cons 0:=zbR (fun x=>sB x s) NCn.name _ _
 rw[← e1] at i1
 rw[← e2] at i2
 rw[← e3] at i3
 rw[← e4] at i4
 rw[← e5] at i5
 rw[← e6] at i6
 clear e1 e2 e3 e4 e5 e6
 unfold namK
 obtain⟨nm,evs,tpls,comps,reqs,excs,cons⟩:=m
 simp only at i1 i2 i3 i4 i5 i6 ⊢
 refine zaa Tk Tryz.func38 rfl Tryz.call38 Tryz.ntmps38 (Nat.le_of_ble_eq_true rfl) fun E=>?_
 refine zag Tk Tryz.func38 ?_
 refine zai Tk Tryz.func38 rfl (fun c1=>?_) (fun c1=>?_)
 ·have c1:k=1:=beqT c1
  rw[if_pos c1]
  generalize nmIx (evs.map (·.name)) s=R at *
  refine zak Tk Tryz.func38 (i1 _ 0 5 rfl) rfl rfl rfl rfl rfl ?_
  refine zah Tk (r:=fndD R) rfl rfl rfl trivial rfl rfl ?_
  rfl
 have c1:¬ k=1:=beqF c1
 rw[if_neg c1]
 refine zai Tk Tryz.func38 rfl (fun c2=>?_) (fun c2=>?_)
 ·have c2:k=2:=beqT c2
  rw[if_pos c2]
  generalize nmIx (tpls.map (·.name)) s=R at *
  refine zak Tk Tryz.func38 (i2 _ 0 5 rfl) rfl rfl rfl rfl rfl ?_
  refine zah Tk (r:=fndD R) rfl rfl rfl trivial rfl rfl ?_
  rfl
 have c2:¬ k=2:=beqF c2
 rw[if_neg c2]
 refine zai Tk Tryz.func38 rfl (fun c3=>?_) (fun c3=>?_)
 ·have c3:k=3:=beqT c3
  rw[if_pos c3]
  generalize nmIx (comps.map (·.name)) s=R at *
  refine zak Tk Tryz.func38 (i3 _ 0 5 rfl) rfl rfl rfl rfl rfl ?_
  refine zah Tk (r:=fndD R) rfl rfl rfl trivial rfl rfl ?_
  rfl
 have c3:¬ k=3:=beqF c3
 rw[if_neg c3]
 refine zai Tk Tryz.func38 rfl (fun c4=>?_) (fun c4=>?_)
 ·have c4:k=4:=beqT c4
  rw[if_pos c4]
  generalize nmIx (reqs.map (·.name)) s=R at *
  refine zak Tk Tryz.func38 (i4 _ 0 5 rfl) rfl rfl rfl rfl rfl ?_
  refine zah Tk (r:=fndD R) rfl rfl rfl trivial rfl rfl ?_
  rfl
 have c4:¬ k=4:=beqF c4
 rw[if_neg c4]
 refine zai Tk Tryz.func38 rfl (fun c5=>?_) (fun c5=>?_)
 ·have c5:k=5:=beqT c5
  rw[if_pos c5]
  generalize nmIx (excs.map (·.name)) s=R at *
  refine zak Tk Tryz.func38 (i5 _ 0 5 rfl) rfl rfl rfl rfl rfl ?_
  refine zah Tk (r:=fndD R) rfl rfl rfl trivial rfl rfl ?_
  rfl
 have c5:¬ k=5:=beqF c5
 rw[if_neg c5]
 refine zai Tk Tryz.func38 rfl (fun c6=>?_) (fun c6=>?_)
 ·have c6:k=6:=beqT c6
  rw[if_pos c6]
  generalize nmIx (cons.map (·.name)) s=R at *
  refine zak Tk Tryz.func38 (i6 _ 0 5 rfl) rfl rfl rfl rfl rfl ?_
  refine zah Tk (r:=fndD R) rfl rfl rfl trivial rfl rfl ?_
  rfl
 have c6:¬ k=6:=beqF c6
 rw[if_neg c6]
 refine zah Tk (r:=fndD (-1)) rfl rfl rfl trivial rfl rfl ?_
 rfl
theorem zfK {α:Type} (nm:α→ByteArray) (l:List α) (s:ByteArray):(l.find? (fun x=>sB (nm x) s)=none∧nmIx (l.map nm) s = -1)∨∃ (k:Nat) (e:α),l[k]? = some e∧l.find? (fun x=>sB (nm x) s)=some e∧nmIx (l.map nm) s=((k:Nat):Int):=by
 have e:nmIx (l.map nm) s=zat (fun x=>sB (nm x) s) l 0:=zbR (fun x=>sB x s) nm l 0
 rw[e]
 rcases zfL (p:=fun x=>sB (nm x) s) l 0 with h | ⟨k,x,h1,h2,h3⟩
 ·exact .inl h
 ·exact .inr ⟨k,x,h1,h2,by rw[h3,Nat.zero_add]⟩
theorem znb (O:List Heap) (n:Int):zan Tryz.prog 170 [ii n] O (bb (bigB n)) [] O:=by
 unfold bigB
 refine zaa Tk Tryz.func170 rfl Tryz.call170 Tryz.ntmps170 (Nat.le_of_ble_eq_true rfl) fun E=>?_
 refine zag Tk Tryz.func170 ?_
 refine zaC Tk Tryz.func170 rfl (fun c1=>?_) (fun c1=>?_)
 ·rw[show decide (n>65536)=true from c1]
  refine zah Tk (r:=bb true) rfl rfl rfl trivial rfl rfl ?_
  rfl
 ·rw[show decide (n>65536)=false from c1]
  refine zah Tk (r:=bb (decide (n < -65536))) rfl rfl rfl trivial rfl rfl ?_
  rfl
theorem zgk (O:List Heap) (m:Mdl) (c k:Nat) (y:Ins) (t:Tpl) (hm:szOk m) (hy:m.comps[c]? = some y) (hk:nmIx (m.tpls.map (·.name)) y.tpl=(k:Int)) (ht:m.tpls[k]? = some t) :
  zan Tryz.prog 167 [mdlD m,ii c] O (tplD t) [] O:=by
 have hf:=fun O=>zei O m 2 y.tpl hm
 rw[show namK m 2=m.tpls.map (·.name) from rfl,hk] at hf
 have hc:c<m.comps.length:=(List.getElem?_eq_some_iff.1 hy).1
 have hkl:k<m.tpls.length:=(List.getElem?_eq_some_iff.1 ht).1
 have gy:(m.comps.map insI)[(c:Int).toNat]? = some (insI y):=by rw[Int.toNat_natCast,List.getElem?_map,hy];rfl
 have gt:(m.tpls.map tplI)[(k:Int).toNat]? = some (tplI t):=by rw[Int.toNat_natCast,List.getElem?_map,ht];rfl
 rw[show fndD (k:Int) = .tup [ii k,bb true] from by simp[fndD,fnd0];omega] at hf
 obtain⟨nm,evs,tpls,comps,reqs,excs,cons⟩:=m
 simp only at hf hc hkl gy gt
 refine zaa Tk Tryz.func167 rfl Tryz.call167 Tryz.ntmps167 (Nat.le_of_ble_eq_true rfl) fun E=>?_
 refine zag Tk Tryz.func167 ?_
 refine zaw Tk Tryz.func167 zaG rfl ?_
 refine zar Tk (by exact⟨by omega,by show (c:Int)<(comps.length:Int);omega⟩) ?_
 refine zaF Tk (gy) ?_
 refine za2 Tk (fun _=>hf _) rfl rfl rfl ?_
 refine zaH Tk Tryz.func167 (by kernel_rfl) ?_
 refine zaf Tk Tryz.func167 (by exact⟨by omega,by show (k:Int)<(tpls.length:Int);omega⟩) ?_
 refine zaq Tk Tryz.func167 (gt) ?_
 refine zah Tk (r:=tplD t) rfl rfl rfl trivial rfl rfl ?_
 rfl
end Go.AI
