/- The layer of abstract runs, part 22. -/
import Derived.Test.YtnojpbbaohoadaaGreatDoorElkU
set_option linter.unusedSimpArgs false
set_option linter.unusedVariables false
set_option linter.all false
set_option maxHeartbeats 4000000
namespace Go.AI
open Go.Proofs
set_option maxRecDepth 20000
theorem ziV (O:List Heap) (a b:Int) (h0:0≤b) (h1:b≤zar):zao Tryz.prog 202 [ii a,ii b] O (bb (decide (b<a)||decide (a < -b))) [] O:=by
 have h:=zlk O a b;simp only[zar] at h1;rw[w64 (by omega) (by omega),Int.zero_sub] at h;exact h
theorem orT {p q:Prop} [Decidable p] [Decidable q] (h:(decide p||decide q)=true):p∨q:=by simpa using h
theorem orF {p q:Prop} [Decidable p] [Decidable q] (h:(decide p||decide q)=false):¬(p∨q):=by
 intro h';have:(decide p||decide q)=true:=by simpa using h'
 rw[h] at this;cases this
def za0 (op v ix:Int) (len:Nat) (n:Int):Int:=
 if (arity op).2=false then 11 else
 if (len:Int)≠(arity op).1 then 4 else
 if (op≠0∧v≠0)∨(op≠1∧ix≠0) then 6 else
 if (op=0∧(65536<v∨v < -65536))∨(op=1∧(ix<0∨ix≥n)) then 2 else 0
mutual
def zcA:Ex→Int→Int→Int→Int×Int
 |.mk op v ix args,n,lvl,c=>
  if c=64∨lvl>8 then (3,c) else
  if za0 op v ix args.length n≠0 then (za0 op v ix args.length n,c+1) else zc2 args n (lvl+1) (c+1)
def zc2:List Ex→Int→Int→Int→Int×Int
 |[],_,_,c=>(0,c)
 |e::r,n,lvl,c=>if (zcA e n lvl c).1≠0 then zcA e n lvl c else zc2 r n lvl (zcA e n lvl c).2
end
mutual
theorem zkr:∀(x:Ex) (n lvl c:Int),0≤c→c≤64→0≤(zcA x n lvl c).2∧(zcA x n lvl c).2≤64
 |.mk op v ix args,n,lvl,c,h0,h1=>by
  simp only[zcA]
  split
  ·exact⟨h0,h1⟩
  ·split
   ·simp only;omega
   ·exact zia args n (lvl+1) (c+1) (by omega) (by omega)
theorem zia:∀(l:List Ex) (n lvl c:Int),0≤c→c≤64→0≤(zc2 l n lvl c).2∧(zc2 l n lvl c).2≤64
 |[],n,lvl,c,h0,h1=>⟨h0,h1⟩
 |e::r,n,lvl,c,h0,h1=>by
  have:=zkr e n lvl c h0 h1;simp only[zc2]
  split
  ·exact this
  ·exact zia r n lvl _ this.1 this.2
end
theorem zvq:∀(N:Nat) (x:Ex),SizeOf.sizeOf x<N→exOk x→∀(O:List Heap) (d nm:Nat) (n lvl c:Int),zab O d nm=some (.box [ii c])→0≤c→c≤64→0≤lvl→lvl≤9 →
  zao Tryz.prog 241 [exD x,ii n,ii lvl,.own d nm 0 0] O (ii (zcA x n lvl c).1) [] (setAt O d nm (.box [ii (zcA x n lvl c).2])):=by
 intro N
 induction N with
 |zero=>intro x h;omega
 |succ N ihN=>
  intro x hs hok O d nm n lvl c ho hc0 hc1 hl0 hl1;obtain⟨op,v,ix,args⟩:=x;simp only[exOk] at hok;have hch:∀e∈args,∀(O:List Heap) (d nm:Nat) (n lvl c:Int),zab O d nm=some (.box [ii c])→0≤c→c≤64→0≤lvl→lvl≤9 →
    zao Tryz.prog 241 [exD e,ii n,ii lvl,.own d nm 0 0] O (ii (zcA e n lvl c).1) [] (setAt O d nm (.box [ii (zcA e n lvl c).2])):=by
   intro e he;refine ihN e ?_ (zkz hok.2 e he);have:=List.sizeOf_lt_of_mem he;simp only[Ex.mk.sizeOf_spec] at hs;omega
  have hlen:args.length≤zar:=hok.1;generalize hR:zcA (.mk op v ix args) n lvl c=R;have hO1:∀H,zab (H::O) (d+1) nm=some (.box [ii c]):=fun H=>by simpa [zab] using ho
  have hw:c≠64→IntKind.i64.wrap (c+1)=c+1:=fun h=>w64 (by omega) (by omega);have hwl:IntKind.i64.wrap (lvl+1)=lvl+1:=w64 (by omega) (by omega);have early:c=64∨lvl>8→R=(3,c):=fun h=>by rw[←hR];simp only[zcA];rw[if_pos h]
  have head:¬(c=64∨lvl>8)→za0 op v ix args.length n≠0→R=(za0 op v ix args.length n,c+1):=fun h h2=>by rw[←hR];simp only[zcA];rw[if_neg h,if_pos h2]
  have body:¬(c=64∨lvl>8)→za0 op v ix args.length n=0→R=zc2 args n (lvl+1) (c+1):=fun h h2=>by rw[←hR];simp only[zcA];rw[if_neg h,if_neg (by simpa using h2)]
  refine zaM [3,9,11,13] Tk Tryz.func241 rfl Tryz.call241 Tryz.ntmps241 (Nat.le_of_ble_eq_true rfl) fun E=>?_;refine zai Tk Tryz.func241 ?_;refine zbE Tk Tryz.func241 (hO1 _) ?_
  apply zbK (P:=¬(c=64∨lvl>8)) (s6:={ σ:=[(1,ii n),(2,ii lvl),(3,.own (d+1) nm 0 0),(4,.own 0 4 0 0)],S:=[(4,.box [ii op,ii v,ii ix,exs args])]::O,n:=103})
  ·intro J;refine zaK Tk Tryz.func241 rfl (fun h1=>?_) (fun h1=>?_)
   ·have:=early (.inl (beqT h1));subst this;refine gcT Tk Tryz.func241 rfl ?_;refine za4 (wk_S (S':=_::setAt O d nm (.box [ii c])) (zaG (zbl ho))) ?_;refine zag Tk (r:=ii 3) rfl rfl rfl trivial rfl rfl ?_;rfl
   ·refine zae Tk Tryz.func241 rfl (fun h2=>?_) (fun h2=>?_)
    ·have:=early (.inr (by have:=of_decide_eq_true h2;omega));subst this;refine za4 (wk_S (S':=_::setAt O d nm (.box [ii c])) (zaG (zbl ho))) ?_;refine zag Tk (r:=ii 3) rfl rfl rfl trivial rfl rfl ?_;rfl
    ·have h1:=beqF h1;have h2:=of_decide_eq_false h2;refine zat ?_;exact zcj (J (by omega)) ⟨rfl,rfl,rfl,rfl,trivial⟩ rfl rfl
  ·intro hP;have hw:=hw (by omega);have head:=head hP;have body:=body hP;clear early
   let s2:St:={ σ:=[(1,ii n),(2,ii lvl),(3,.own (d+1) nm 0 0),(4,.own 0 4 0 0)],S:=[(4,.box [ii op,ii v,ii ix,exs args])]::setAt O d nm (.box [ii (c+1)]),n:=103}
   have hSS:[(4,Ob.box [ii op,ii v,ii ix,exs args])]::setAt O d nm (.box [ii (IntKind.i64.wrap (c+1))])=s2.S:=by rw[hw]
   have hS2:∀d' n',zab s2.S d' n'=zab ([(4,Ob.box [ii op,ii v,ii ix,exs args])]::setAt O d nm (.box [ii (IntKind.i64.wrap (c+1))])) d' n':=by rw[hSS];exact fun _ _=>rfl
   refine zai Tk Tryz.func241 ?_;refine g_go Tk Tryz.func241 ?_;refine zbE Tk Tryz.func241 (hO1 _) ?_;refine zbE Tk Tryz.func241 (hO1 _) ?_;refine zaj Tk Tryz.func241 (zl2 _ op) rfl rfl rfl rfl rfl ?_;refine zae Tk Tryz.func241 rfl (fun h3=>?_) (fun h3=>?_)
   ·have h3:=notT h3;have hh:za0 op v ix args.length n=11:=by unfold za0;rw[if_pos h3]
    have:=head (by rw[hh];decide);subst this;refine za4 (wk_S (S':=s2.S) (by exact hS2)) ?_;refine zag Tk (r:=ii 11) rfl rfl rfl trivial rfl rfl ?_;rw[hh]
   have h3:=notF h3;have h3:¬(arity op).2=false:=by rw[h3];simp
   refine zae Tk Tryz.func241 rfl (fun h4=>?_) (fun h4=>?_)
   ·have h4:=bneT h4;have hh:za0 op v ix args.length n=4:=by unfold za0;rw[if_neg h3,if_pos h4]
    have:=head (by rw[hh];decide);subst this;refine za4 (wk_S (S':=s2.S) (by exact hS2)) ?_;refine zag Tk (r:=ii 4) rfl rfl rfl trivial rfl rfl ?_;rw[hh]
   have h4:=bneF h4;have h4:¬(args.length:Int)≠(arity op).1:=by omega
   have bad6:(op≠0∧v≠0)∨(op≠1∧ix≠0)→R=(6,c+1):=fun h=>by
    have hh:za0 op v ix args.length n=6:=by unfold za0;rw[if_neg h3,if_neg h4,if_pos h]
    rw[head (by rw[hh];decide),hh]
   apply zbK (P:=¬((op≠0∧v≠0)∨(op≠1∧ix≠0))) (s6:=s2)
   ·intro J;refine zat ?_;refine zai Tk Tryz.func241 ?_;refine g_go Tk Tryz.func241 ?_;refine zaK Tk Tryz.func241 rfl (fun h5=>?_) (fun h5=>?_)
    ·have h5:=bneT h5;refine zaK Tk Tryz.func241 rfl (fun h6=>?_) (fun h6=>?_)
     ·have:=bad6 (.inl ⟨h5,bneT h6⟩);subst this;refine gcT Tk Tryz.func241 rfl ?_;refine za4 (wk_S (S':=s2.S) (by exact hS2)) ?_;refine zag Tk (r:=ii 6) rfl rfl rfl trivial rfl rfl ?_;rfl
     ·have h6:=bneF h6;refine zaK Tk Tryz.func241 rfl (fun h7=>?_) (fun h7=>?_)
      ·have h7:=bneT h7;refine zae Tk Tryz.func241 rfl (fun h8=>?_) (fun h8=>?_)
       ·have:=bad6 (.inr ⟨h7,bneT h8⟩);subst this;refine za4 (wk_S (S':=s2.S) (by exact hS2)) ?_;refine zag Tk (r:=ii 6) rfl rfl rfl trivial rfl rfl ?_;rfl
       ·have h8:=bneF h8;refine zat ?_;exact zcj (J (by omega)) ⟨rfl,rfl,rfl,rfl,trivial⟩ hSS rfl
      ·have h7:=bneF h7;refine gcF Tk Tryz.func241 rfl ?_;refine zat ?_;exact zcj (J (by omega)) ⟨rfl,rfl,rfl,rfl,trivial⟩ hSS rfl
    ·have h5:=bneF h5;refine gkF Tk Tryz.func241 rfl ?_;refine zaK Tk Tryz.func241 rfl (fun h7=>?_) (fun h7=>?_)
     ·have h7:=bneT h7;refine zae Tk Tryz.func241 rfl (fun h8=>?_) (fun h8=>?_)
      ·have:=bad6 (.inr ⟨h7,bneT h8⟩);subst this;refine za4 (wk_S (S':=s2.S) (by exact hS2)) ?_;refine zag Tk (r:=ii 6) rfl rfl rfl trivial rfl rfl ?_;rfl
      ·have h8:=bneF h8;refine zat ?_;exact zcj (J (by omega)) ⟨rfl,rfl,rfl,rfl,trivial⟩ hSS rfl
     ·have h7:=bneF h7;omega
   ·intro hQ;have bad2:(op=0∧(65536<v∨v < -65536))∨(op=1∧(ix<0∨ix≥n))→R=(2,c+1):=fun h=>by
     have hh:za0 op v ix args.length n=2:=by unfold za0;rw[if_neg h3,if_neg h4,if_neg hQ,if_pos h]
     rw[head (by rw[hh];decide),hh]
    have good:¬((op=0∧(65536<v∨v < -65536))∨(op=1∧(ix<0∨ix≥n)))→R=zc2 args n (lvl+1) (c+1):=fun h=>by
     have hh:za0 op v ix args.length n=0:=by unfold za0;rw[if_neg h3,if_neg h4,if_neg hQ,if_neg h]
     exact body hh
    clear head body bad6
    apply zbK (P:=R=zc2 args n (lvl+1) (c+1)) (s6:=s2)
    ·intro J;refine zai Tk Tryz.func241 ?_;refine g_go Tk Tryz.func241 ?_;refine zaK Tk Tryz.func241 rfl (fun h5=>?_) (fun h5=>?_)
     ·have h5:=beqT h5;refine zaj Tk Tryz.func241 (ziV _ v 65536 (by decide) (by decide)) rfl rfl rfl rfl rfl ?_;refine zaK Tk Tryz.func241 rfl (fun h6=>?_) (fun h6=>?_)
      ·have h6:=orT h6;have:=bad2 (.inl ⟨h5,h6⟩);subst this;refine gcT Tk Tryz.func241 rfl ?_;refine zag Tk (r:=ii 2) rfl rfl rfl trivial rfl rfl ?_;rfl
      ·have h6:=orF h6;refine zaK Tk Tryz.func241 rfl (fun h7=>?_) (fun h7=>?_)
       ·have h7:=beqT h7;omega
       ·refine gcF Tk Tryz.func241 rfl ?_;refine zat ?_;exact zcj (J (good (by omega))) ⟨rfl,rfl,rfl,rfl,trivial⟩ rfl rfl
     ·have h5:=beqF h5;refine gkF Tk Tryz.func241 rfl ?_;refine zaK Tk Tryz.func241 rfl (fun h7=>?_) (fun h7=>?_)
      ·have h7:=beqT h7;refine zaK Tk Tryz.func241 rfl (fun h8=>?_) (fun h8=>?_)
       ·have h8:=of_decide_eq_true h8;have:=bad2 (.inr ⟨h7,.inl h8⟩);subst this;refine gcT Tk Tryz.func241 rfl ?_;refine zag Tk (r:=ii 2) rfl rfl rfl trivial rfl rfl ?_;rfl
       ·have h8:=of_decide_eq_false h8;refine zae Tk Tryz.func241 rfl (fun h9=>?_) (fun h9=>?_)
        ·have h9:=of_decide_eq_true h9;have:=bad2 (.inr ⟨h7,.inr h9⟩);subst this;refine zag Tk (r:=ii 2) rfl rfl rfl trivial rfl rfl ?_;rfl
        ·have h9:=of_decide_eq_false h9;refine zat ?_;exact zcj (J (good (by omega))) ⟨rfl,rfl,rfl,rfl,trivial⟩ rfl rfl
      ·have h7:=beqF h7;refine gcF Tk Tryz.func241 rfl ?_;refine zat ?_;exact zcj (J (good (by omega))) ⟨rfl,rfl,rfl,rfl,trivial⟩ rfl rfl
    ·intro hR;clear good bad2 hQ h3 h4;refine zai Tk Tryz.func241 ?_;refine g_go Tk Tryz.func241 ?_;refine zah ?_;have hx:zab O d nm=some (.box [ii c]):=ho;refine zak (fun x:Nat×Int=>[(1,ii n),(2,ii lvl),(3,.own (d+1) nm 0 0),(87,exs args),(88,ii args.length),(89,ii x.1)]) (fun _=>[]) (fun x=>setAt O d nm (.box [ii x.2])) 103
      (fun x=>x.1≤args.length∧0≤x.2∧x.2≤64∧R=zc2 (args.drop x.1) n (lvl+1) x.2) (fun x=>args.length-x.1) (0,c+1) ⟨Nat.zero_le _,by simp only;omega,by simp only;omega,hR⟩ ⟨rfl,rfl,rfl,rfl,rfl,rfl,trivial⟩ rfl trivial rfl rfl ?_
     rintro ⟨i,c'⟩ ⟨hi,hc0',hc1',hno⟩ ih;simp only at hi hc0' hc1' hno;refine zai Tk Tryz.func241 ?_;refine zae Tk Tryz.func241 rfl (fun h5=>?_) (fun h5=>?_)
     ·have h5:i<args.length:=by simpa using h5
      have hd:args.drop i=args[i]::args.drop (i+1):=(List.drop_eq_getElem_cons h5);have hm:=List.getElem_mem h5;have hg:=zgn h5;generalize args[i]=e at hd hm hg;have hce:=fun O ho=>hch e hm O (d+1) nm n (IntKind.i64.wrap (lvl+1)) c' ho hc0' hc1' (by omega) (by omega);have hcnt:=zkr e n (IntKind.i64.wrap (lvl+1)) c' hc0' hc1';obtain⟨eo,ev,ei,ea⟩:=e;simp only[exI] at hg;rw[hd] at hno;simp only[zc2] at hno;rw[←hwl] at hno;refine zad Tk Tryz.func241 (by omega) ?_;refine zap Tk Tryz.func241 (hg) ?_;refine zaj Tk Tryz.func241 (hce _ (by exact zay (zaf ho))) rfl rfl rfl (za1 (zaU (zaf ho) rfl)) rfl ?_;generalize zcA (.mk eo ev ei ea) n (IntKind.i64.wrap (lvl+1)) c'=Q at hno hcnt;obtain⟨qe,qc⟩:=Q;simp only at hno hcnt;refine zae Tk Tryz.func241 rfl (fun h6=>?_) (fun h6=>?_)
      ·have h6:=bneT h6;rw[if_pos h6] at hno;subst hno;refine za4 (wk_S (S':=_::setAt O d nm (.box [ii qc])) (zaG fun d n=>zbM d n)) ?_;refine zag Tk (r:=ii _) rfl rfl rfl trivial rfl rfl ?_;rfl
      ·have h6:=bneF h6;rw[if_neg (by simpa using h6),hwl] at hno;refine g_wk (wk_S (S':=_::setAt O d nm (.box [ii qc])) (zaG fun d n=>zbM d n)) ?_;refine zah ?_;refine ih (i+1,qc) _ _ ⟨h5,hcnt.1,hcnt.2,hno⟩ (by simp only;omega) ⟨rfl,rfl,rfl,rfl,rfl,congrArg ii (zaC h5 hlen),trivial⟩ rfl trivial rfl rfl
     ·have h5:args.length≤i:=by simpa using h5
      rw[List.drop_eq_nil_of_le h5] at hno;subst hno;refine zag Tk (r:=ii 0) rfl rfl rfl trivial rfl rfl ?_;rfl
end Go.AI
namespace Go.AI
section
variable {c:Cx} {s:St} {E:Env} {K:Kn} {ρ:Nat→Nat→Loc} {H:Heap} {O:List Heap} {w:World}
theorem HInv.rebox {b:Nat} {cs cs':List D} (hh:HInv E K ρ (H::O) w) (ho:look H b=some (.box cs)) (hc:∀vs,RepDL K ρ (shape (H::O)) vs cs→RepDL K ρ (shape (H::O)) vs cs'):HInv E K ρ (((b,.box cs')::H)::O) w:=by
 have hsh:shape (((b,.box cs')::H)::O)=shape (H::O):=za7 ho rfl;have hcase:∀d n o,zab (((b,.box cs')::H)::O) d n=some o→∃o0,zab (H::O) d n=some o0∧(o=o0∨(d=0∧n=b∧o=.box cs'∧o0=.box cs))∧(∀l,zaA l o↔zaA l o0):=by
  intro d n o e;rcases zcl (ob:=.box cs) e with ⟨rfl,rfl,rfl⟩|⟨_,e2⟩
  ·exact⟨.box cs,by simpa [zab] using ho,.inr ⟨rfl,rfl,rfl,rfl⟩,fun l=>Iff.rfl⟩
  ·exact⟨o,e2,.inl rfl,fun _=>Iff.rfl⟩
 refine⟨hh.holds,?_,?_,hh.size,?_,?_,hh.outer,hh.Kle,hh.Knew,hh.rest⟩
 ·intro d n o e;obtain⟨o0,e0,h1,_⟩:=hcase d n o e;have h0:=hh.own _ _ _ e0;have hdr:shape ((((b,.box cs')::H)::O).drop d)=shape ((H::O).drop d):=by
   cases d with
   |zero=>exact hsh
   |succ d=>rfl
  rw[hdr];rcases h1 with rfl|⟨rfl,rfl,rfl,rfl⟩
  ·exact h0
  ·obtain⟨cl,T,a1,a2,a3⟩:=h0;have e2:(fun d n=>ρ (0+d) n)=ρ:=by funext d n;rw[Nat.zero_add]
   rw[e2] at a2 ⊢;exact⟨cl,T,a1,hc _ a2,a3⟩
 ·intro d n o d' n' o' e e' b1 b2 hbe;obtain⟨o1,e1,_,h1⟩:=hcase d n o e;obtain⟨o2,e2,_,h2⟩:=hcase d' n' o' e';exact hh.inj _ _ _ _ _ _ e1 e2 ((h1 _).1 b1) ((h2 _).1 b2) hbe
 ·intro b' hb hno;exact hh.old b' hb fun d n o e=>hno d n o (by simpa [zab] using e)
 ·intro n o e hb;obtain⟨o1,e1,_,h1⟩:=hcase 0 n o e;exact hh.loc _ _ e1 ((h1 _).1 hb)
theorem RepDL.mid {K:Kn} {ρ:Nat→Nat→Loc} {sh:Nat→Nat→Option Sh} {d d':D} (h:∀v,RepD K ρ sh v d→RepD K ρ sh v d'):∀{a b:List D} {vs:List Value},RepDL K ρ sh vs (a++d::b)→RepDL K ρ sh vs (a++d'::b)
 |[],b,_,.cons r rs=>.cons (h _ r) rs
 |_::a,b,_,.cons r rs=>.cons r (RepDL.mid (a:=a) h rs)
theorem zaL (b nm e z:Nat) {pre post:List D} (hS:s.S=H::O) (hb:look H b=some (.box (pre ++ .i (.v (.slice none 0 0))::post))) (hf:look H nm=none):Wk c s {σ:=s.σ,S:=((b,.box (pre ++ .osl 0 nm::post))::(nm,.arr e z 0 [] true)::H)::O,n:=s.n}:=by
 intro K ρ a w hi;have hh:=hi.h;rw[hS] at hh
 let l0:Loc:=⟨0,0,none⟩
 have hown:∀ρ' sh',OwnAt K ρ' sh' w l0 (.arr e z 0 [] true):=fun ρ' sh'=>⟨by simp,rfl,Nat.le_refl _,by simp[l0],.inl ⟨rfl,rfl⟩⟩;have hg:Grow K ρ (H::O) w [(nm,.arr e z 0 [] true)] K (upd ρ nm l0) w:=by
  refine⟨K.le_refl,fun _ _ _ h=>.inl h,Nat.le_refl _,fun _ _=>rfl,⟨rfl,rfl,rfl⟩,fun d n' h=>?_,hh.holds,fun n' ob e'=>?_,fun n1 o1 n2 o2 e1 e2 b1 b2 _=>?_⟩
  ·refine zaS _ _ _ (h.imp id fun h e'=>?_);subst e';simp[zac] at h
  ·obtain⟨rfl,rfl⟩:=zaV e';rw[zaX];exact⟨hown _ _,fun hb=>absurd rfl hb⟩
  ·obtain⟨rfl,rfl⟩:=zaV e1;obtain⟨rfl,rfl⟩:=zaV e2;rfl
 obtain⟨hI,hst⟩:=HInv.grow (S:=H::O) rfl hh (fun _ _ _ e=>e) (fun n' h=>by
  cases hl:look [(nm,Ob.arr e z 0 [] true)] n' with
  |none=>exact absurd hl h
  |some ob=>obtain⟨rfl,rfl⟩:=zaV hl;exact hf) hg
 have hbn:nm≠b:=fun e'=>by subst e';rw[hf] at hb;cases hb
 have hb':look ((nm,Ob.arr e z 0 [] true)::H) b=some (.box (pre ++ .i (.v (.slice none 0 0))::post)):=by rw[zac,if_neg hbn];exact hb
 have hI2:HInv c.E K (upd ρ nm l0) (((b,.box (pre ++ .osl 0 nm::post))::(nm,.arr e z 0 [] true)::H)::O) w:=by
  refine HInv.rebox hI hb' fun vs hv=>hv.mid fun v h1=>?_;rw[zaT h1];have:=RepD.osl (K:=K) (ρ:=upd ρ nm l0) (sh:=shape (((nm,Ob.arr e z 0 [] true)::H)::O)) (dep:=0) (nm:=nm) (es:=z) (len:=0) (by simp[shape,zab,zac,Ob.sh]);rw[zaX] at this;exact this
 have hsh:shape (((b,.box (pre ++ .osl 0 nm::post))::(nm,.arr e z 0 [] true)::H)::O)=shape (((nm,Ob.arr e z 0 [] true)::H)::O):=za7 hb' rfl;refine⟨K,upd ρ nm l0,hI2,hi.defers,hi.size,fun t' d e'=>?_⟩;have:=hi.slots _ _ e';rw[hS] at this;show RepD K _ (shape (((b,.box (pre ++ .osl 0 nm::post))::(nm,.arr e z 0 [] true)::H)::O)) _ _;rw[hsh];exact this.stays hst
theorem zjt (b nm e z:Nat) (hS:s.S=H::O) (hb:look H b=some (.box [.i (.v (.slice none 0 0))])) (hf:look H nm=none):Wk c s {σ:=s.σ,S:=((b,.box [.osl 0 nm])::(nm,.arr e z 0 [] true)::H)::O,n:=s.n}:=zaL b nm e z (pre:=[]) (post:=[]) hS hb hf
end
end Go.AI
namespace Go.AI
open Go.Proofs
set_option maxRecDepth 20000
def zb2 (op:Int) (l:List Int):Int:=
 if op=0∨op=1 then 1 else
 if op=2∨op=3∨op=4∨op=5 then (if l.all (· = 1) then 1 else 0) else
 if op=6∨op=7∨op=8∨op=9 then (if l.all (· = 1) then 2 else 0) else
 if op=10∨op=11∨op=12 then (if l.all (· = 2) then 2 else 0) else
 if op=13 then (if l.getD 0 0=2∧l.getD 1 0=l.getD 2 0 then l.getD 1 0 else 0) else 0
mutual
def zbi:Ex→Int
 |.mk op _ _ args=>match za8 args with
  |some l=>zb2 op l
  |none=>0
def za8:List Ex→Option (List Int)
 |[]=>some []
 |e::r=>if zbi e=0 then none else (za8 r).map (zbi e :: ·)
end
theorem zdi:∀{r:List Ex} {l:List Int},za8 r=some l→l.length=r.length
 |[],l,h=>by simp only[za8,Option.some.injEq] at h;subst h;rfl
 |e::r,l,h=>by
  simp only[za8] at h
  split at h
  ·cases h
  ·cases hk:za8 r with
   |none=>simp[hk] at h
   |some l'=>
    simp only[hk,Option.map_some,Option.some.injEq] at h;subst h;simp[zdi hk]
theorem zxC {p:Prop} [Decidable p] {a b:Int×Bool} (ha:a.1≤3) (hb:b.1≤3):(if p then a else b).1≤3:=by
 split<;>assumption
theorem zgo (op:Int):(arity op).1≤3:=by
 unfold arity
 repeat' (refine zxC ?_ ?_)
 all_goals decide
theorem zeY {op:Int} (h:(arity op).2=true):(op=0∨op=1)∨(op=2∨op=3∨op=4∨op=5)∨(op=6∨op=7∨op=8∨op=9)∨(op=10∨op=11∨op=12)∨op=13:=by
 by_cases hn:op=0∨op=1∨op=2∨op=3∨op=4∨op=5∨op=6∨op=7∨op=8∨op=9∨op=10∨op=11∨op=12∨op=13
 ·omega
 ·unfold arity at h;rw[if_neg (by omega),if_neg (by omega),if_neg (by omega),if_neg (by omega),if_neg (by omega),if_neg (by omega),if_neg (by omega),if_neg (by omega),if_neg (by omega),if_neg (by omega),if_neg (by omega),if_neg (by omega),if_neg (by omega),if_neg (by omega)] at h
  cases h
theorem zb9 {op v ix n:Int} {len:Nat} (h:za0 op v ix len n=0):(arity op).2=true∧(len:Int)=(arity op).1∧¬((op≠0∧v≠0)∨(op≠1∧ix≠0))∧¬((op=0∧(65536<v∨v < -65536))∨(op=1∧(ix<0∨ix≥n))):=by
 unfold za0 at h
 by_cases h1:(arity op).2=false
 ·rw[if_pos h1] at h;cases h
 rw[if_neg h1] at h
 by_cases h2:(len:Int)≠(arity op).1
 ·rw[if_pos h2] at h;cases h
 rw[if_neg h2] at h
 by_cases h3:(op≠0∧v≠0)∨(op≠1∧ix≠0)
 ·rw[if_pos h3] at h;cases h
 rw[if_neg h3] at h
 by_cases h4:(op=0∧(65536<v∨v < -65536))∨(op=1∧(ix<0∨ix≥n))
 ·rw[if_pos h4] at h;cases h
 exact⟨by simpa using h1,by omega,h3,h4⟩
mutual
def wfE (n:Int):Ex→Prop
 |.mk op v ix args=>za0 op v ix args.length n=0∧wfEs n args
def wfEs (n:Int):List Ex→Prop
 |[]=>True
 |x::xs=>wfE n x∧wfEs n xs
end
theorem zeZ {n:Int}:∀{l:List Ex},wfEs n l→∀x∈l,wfE n x
 |[],_,x,h=>by simp at h
 |y::r,h,x,hx=>by
  simp only[wfEs] at h;rcases List.mem_cons.1 hx with rfl|hx
  ·exact h.1
  ·exact zeZ h.2 x hx
mutual
theorem zgk:∀(x:Ex) (n lvl c:Int),(zcA x n lvl c).1=0→wfE n x
 |.mk op v ix args,n,lvl,c,h=>by
  simp only[zcA] at h
  split at h
  ·cases h
  ·split at h
   ·rename_i h1;exact absurd h h1
   ·rename_i h1;exact⟨by simpa using h1,zkp args n _ _ h⟩
theorem zkp:∀(l:List Ex) (n lvl c:Int),(zc2 l n lvl c).1=0→wfEs n l
 |[],n,lvl,c,_=>trivial
 |e::r,n,lvl,c,h=>by
  simp only[zc2] at h
  split at h
  ·rename_i h1;exact absurd h h1
  ·rename_i h1;exact⟨zgk e n lvl c (by simpa using h1),zkp r n _ _ h⟩
end
theorem zll {args:List Ex} {i:Nat} {l:List Int} (h:i<args.length) (hl:za8 (args.take i)=some l):za8 (args.take (i+1))=if zbi args[i]=0 then none else some (l++[zbi args[i]]):=by
 induction args generalizing i l with
 |nil=>simp at h
 |cons e r ih=>
  cases i with
  |zero=>
   simp only[List.take_zero,za8,Option.some.injEq] at hl;subst hl;simp[za8]
  |succ i=>
   simp only[List.take_succ_cons,za8] at hl ⊢
   split at hl
   ·cases hl
   ·rename_i h1;rw[if_neg h1]
    cases hk:za8 (r.take i) with
    |none=>simp[hk] at hl
    |some l'=>
     simp only[hk,Option.map_some,Option.some.injEq] at hl;subst hl;rw[ih (by simpa using h) hk];simp only[List.getElem_cons_succ]
     split<;>simp
theorem zlm {args:List Ex} {i:Nat} (hl:za8 (args.take i)=none):za8 args=none:=by
 induction args generalizing i with
 |nil=>simpa using hl
 |cons e r ih=>
  cases i with
  |zero=>simp[za8] at hl
  |succ i=>
   simp only[List.take_succ_cons,za8] at hl ⊢
   split at hl
   ·rename_i h1;rw[if_pos h1]
   ·rename_i h1;rw[if_neg h1]
    cases hk:za8 (r.take i) with
    |none=>rw[ih hk];rfl
    |some l=>simp[hk] at hl
theorem zcM (l:List Int) (k:Int):Ob.arr 3 1 (l.length+1) ((l.map fun x=>[vi x])++[[vi k]]) true=zb7 (l++[k]):=by
 simp
theorem zyL (n:Int):∀(N:Nat) (x:Ex),SizeOf.sizeOf x<N→wfE n x→∀O,zao Tryz.prog 242 [exD x] O (ii (zbi x)) [] O:=by
 intro N
 induction N with
 |zero=>intro x h;omega
 |succ N ihN=>
  intro x hs hwf O;obtain⟨op,v,ix,args⟩:=x;simp only[wfE] at hwf;obtain⟨hform,hwf⟩:=hwf;obtain⟨ha,hb,-,-⟩:=zb9 hform;have hch:∀e∈args,∀O,zao Tryz.prog 242 [exD e] O (ii (zbi e)) [] O:=by
   intro e he O;refine ihN e ?_ (zeZ hwf e he) O;have:=List.sizeOf_lt_of_mem he;simp only[Ex.mk.sizeOf_spec] at hs;omega
  have hlen3:args.length≤3:=by have:=zgo op;omega
  have hlen:args.length≤zar:=by simp only[zar];omega
  clear ihN hs;generalize hR:zbi (.mk op v ix args)=R;simp only[zbi] at hR;refine zaM [11] Tk Tryz.func242 rfl Tryz.call242 Tryz.ntmps242 (Nat.le_of_ble_eq_true rfl) fun E=>?_;refine zai Tk Tryz.func242 ?_
  apply zv9 (P:=fun l=>za8 args=some l) (s6:=fun l=>{ σ:=[(1,.own 0 1 0 0),(3,.own 0 3 0 0),(7,.fn (.func 273) [] [.own 0 3 0 0])],S:=[(3,.box [ints l]),(1,.box [ii op,ii v,ii ix,exs args])]::O,n:=68})
  ·intro J;refine zah ?_;refine zaq (zjt 3 22 3 1 rfl rfl rfl) ?_;refine zak (fun x:Nat×List Int=>[(1,.own 0 1 0 0),(3,.own 0 3 0 0),(9,exs args),(10,ii args.length),(11,ii x.1)]) (fun x=>[(3,.box [.osl 0 22]),(22,zb7 x.2),(1,.box [ii op,ii v,ii ix,exs args])]) (fun _=>O) 68
    (fun x=>x.1≤args.length∧za8 (args.take x.1)=some x.2) (fun x=>args.length-x.1) (0,[]) ⟨Nat.zero_le _,rfl⟩ ⟨rfl,rfl,rfl,rfl,rfl,trivial⟩ rfl ⟨rfl,rfl,rfl,trivial⟩ rfl rfl ?_
   rintro ⟨i,l⟩ ⟨hi,hno⟩ ih;simp only at hi hno;refine zai Tk Tryz.func242 ?_;refine zae Tk Tryz.func242 rfl (fun h5=>?_) (fun h5=>?_)
   ·have h5:i<args.length:=by simpa using h5
    have hm:=List.getElem_mem h5;have hg:=zgn h5;have ht:=zll h5 hno;have hll:=zdi hno;simp only[List.length_take,Nat.min_eq_left hi] at hll;generalize args[i]=e at hm hg ht;have hce:=fun O=>hch e hm O;obtain⟨eo,ev,ei,ea⟩:=e;simp only[exI] at hg;refine zad Tk Tryz.func242 (by omega) ?_;refine zap Tk Tryz.func242 (hg) ?_;refine zaj Tk Tryz.func242 (hce _) rfl rfl rfl rfl rfl ?_;generalize zbi (.mk eo ev ei ea)=k at ht;refine zae Tk Tryz.func242 rfl (fun h6=>?_) (fun h6=>?_)
    ·have h6:=beqT h6;rw[if_pos h6] at ht;have:=zlm ht;rw[this] at hR;subst hR;refine zag Tk (r:=ii 0) rfl rfl rfl trivial rfl rfl ?_;rfl
    ·have h6:=beqF h6;rw[if_neg h6] at ht;refine zad Tk Tryz.func242 (by exact⟨by show (l.length+1)*8≤140737488355328;omega,by show l.length+1≤9223372036854775807;omega⟩) ?_;refine zah ?_;refine ih (i+1,l++[k]) _ _ ⟨h5,ht⟩ (by simp only;omega) ⟨rfl,rfl,rfl,rfl,congrArg ii (zaC h5 hlen),trivial⟩ rfl ⟨rfl,congrArg some (zcM l k),rfl,trivial⟩ rfl rfl
   ·have h5:args.length≤i:=by simpa using h5
    rw[List.take_of_length_le h5] at hno;refine zat ?_;refine zaq (zam 22 rfl rfl) ?_;refine zaq (zaQ rfl) ?_;refine zdq (l:=[(1,.own 0 1 0 0),(3,.own 0 3 0 0),(7,.fn (.func 273) [] [.own 0 3 0 0])]) (Hv:=[(3,.box [ints l]),(1,.box [ii op,ii v,ii ix,exs args])]) ⟨rfl,rfl,rfl,trivial⟩ rfl ⟨rfl,rfl,trivial⟩ rfl rfl (J l hno)
  ·intro l hl;have hll:=zdi hl;rw[hl] at hR;simp only at hR;have hlm:l.length≤zar:=by simp only[zar];omega
   refine zai Tk Tryz.func242 ?_;refine g_go Tk Tryz.func242 ?_;have hc:=zeY ha;have k1:=fun O d nm (ho:zab O d nm=some (.box [ints l]))=>zsg O 1 l d nm hlm ho;have k2:=fun O d nm (ho:zab O d nm=some (.box [ints l]))=>zsg O 2 l d nm hlm ho;have g1:(op=0∨op=1)→R=1:=fun h=>by rw[←hR];unfold zb2;rw[if_pos h]
   have g2:(op=2∨op=3∨op=4∨op=5)→R=if l.all (· = 1) then 1 else 0:=fun h=>by rw[←hR];unfold zb2;rw[if_neg (by omega),if_pos h]
   have g3:(op=6∨op=7∨op=8∨op=9)→R=if l.all (· = 1) then 2 else 0:=fun h=>by rw[←hR];unfold zb2;rw[if_neg (by omega),if_neg (by omega),if_pos h]
   have g4:(op=10∨op=11∨op=12)→R=if l.all (· = 2) then 2 else 0:=fun h=>by rw[←hR];unfold zb2;rw[if_neg (by omega),if_neg (by omega),if_neg (by omega),if_pos h]
   have g5:op=13→R=if l.getD 0 0=2∧l.getD 1 0=l.getD 2 0 then l.getD 1 0 else 0:=fun h=>by rw[←hR];unfold zb2;rw[if_neg (by omega),if_neg (by omega),if_neg (by omega),if_neg (by omega),if_pos h]
   clear hR hform hch;rcases hc with hc|hc|hc|hc|hc
   ·have:=g1 hc;subst this;clear g1 g2 g3 g4 g5;rcases hc with rfl|rfl
    all_goals
     repeat (first|refine gcT Tk Tryz.func242 rfl ?_|refine gkT Tk Tryz.func242 rfl ?_|refine skT Tk ?_|refine gcF Tk Tryz.func242 rfl ?_|refine gkF Tk Tryz.func242 rfl ?_|refine skF Tk ?_)
     refine zag Tk (r:=ii 1) rfl rfl rfl trivial rfl rfl ?_;rfl
   ·have:=g2 hc;subst this;clear g1 g2 g3 g4 g5;rcases hc with rfl|rfl|rfl|rfl
    all_goals
     repeat (first|refine gcT Tk Tryz.func242 rfl ?_|refine gkT Tk Tryz.func242 rfl ?_|refine skT Tk ?_|refine gcF Tk Tryz.func242 rfl ?_|refine gkF Tk Tryz.func242 rfl ?_|refine skF Tk ?_)
     refine zaj Tk Tryz.func242 (k1 _ _ _ rfl) rfl rfl rfl rfl rfl ?_;refine zae Tk Tryz.func242 rfl (fun h1=>?_) (fun h1=>?_)
     ·refine zag Tk (r:=ii 1) rfl rfl rfl trivial rfl rfl ?_;rw[if_pos h1]
     ·skip
      refine zag Tk (r:=ii 0) rfl rfl rfl trivial rfl rfl ?_;rw[h1];rfl
   ·have:=g3 hc;subst this;clear g1 g2 g3 g4 g5;rcases hc with rfl|rfl|rfl|rfl
    all_goals
     repeat (first|refine gcT Tk Tryz.func242 rfl ?_|refine gkT Tk Tryz.func242 rfl ?_|refine skT Tk ?_|refine gcF Tk Tryz.func242 rfl ?_|refine gkF Tk Tryz.func242 rfl ?_|refine skF Tk ?_)
     refine zaj Tk Tryz.func242 (k1 _ _ _ rfl) rfl rfl rfl rfl rfl ?_;refine zae Tk Tryz.func242 rfl (fun h1=>?_) (fun h1=>?_)
     ·refine zag Tk (r:=ii 2) rfl rfl rfl trivial rfl rfl ?_;rw[if_pos h1]
     ·skip
      refine zag Tk (r:=ii 0) rfl rfl rfl trivial rfl rfl ?_;rw[h1];rfl
   ·have:=g4 hc;subst this;clear g1 g2 g3 g4 g5;rcases hc with rfl|rfl|rfl
    all_goals
     repeat (first|refine gcT Tk Tryz.func242 rfl ?_|refine gkT Tk Tryz.func242 rfl ?_|refine skT Tk ?_|refine gcF Tk Tryz.func242 rfl ?_|refine gkF Tk Tryz.func242 rfl ?_|refine skF Tk ?_)
     refine zaj Tk Tryz.func242 (k2 _ _ _ rfl) rfl rfl rfl rfl rfl ?_;refine zae Tk Tryz.func242 rfl (fun h1=>?_) (fun h1=>?_)
     ·refine zag Tk (r:=ii 2) rfl rfl rfl trivial rfl rfl ?_;rw[if_pos h1]
     ·skip
      refine zag Tk (r:=ii 0) rfl rfl rfl trivial rfl rfl ?_;rw[h1];rfl
   ·have:=g5 hc;subst this;clear g1 g2 g3 g4 g5;subst hc;have h3:l.length=3:=by rw[hll];have:(args.length:Int)=3:=hb;omega
    obtain⟨a,l,rfl⟩:∃a r,l=a::r:=by cases l with|nil=>simp at h3|cons a r=>exact⟨_,_,rfl⟩
    obtain⟨b,l,rfl⟩:∃a r,l=a::r:=by cases l with|nil=>simp at h3|cons a r=>exact⟨_,_,rfl⟩
    obtain⟨e,l,rfl⟩:∃a r,l=a::r:=by cases l with|nil=>simp at h3|cons a r=>exact⟨_,_,rfl⟩
    obtain rfl:l=[]:=List.eq_nil_of_length_eq_zero (by simpa using h3)
    repeat (first|refine gcT Tk Tryz.func242 rfl ?_|refine gkT Tk Tryz.func242 rfl ?_|refine skT Tk ?_|refine gcF Tk Tryz.func242 rfl ?_|refine gkF Tk Tryz.func242 rfl ?_|refine skF Tk ?_)
    refine zav Tk Tryz.func242 zaz rfl ?_;refine zas Tk (by simp) ?_;refine zaE Tk (rfl) ?_;refine zbS Tk (fun h1=>?_) (fun h1=>?_)
    ·have h1:=beqT h1;refine zas Tk (by simp) ?_;refine zaE Tk (rfl) ?_;refine zas Tk (by simp) ?_;refine zaE Tk (rfl) ?_;refine zaB Tk Tryz.func242 (by kernel_rfl) ?_;refine zae Tk Tryz.func242 rfl (fun h2=>?_) (fun h2=>?_)
     ·have h2:=beqT h2;refine zad Tk Tryz.func242 (by simp) ?_;refine zap Tk Tryz.func242 (rfl) ?_;refine zag Tk (r:=ii b) rfl rfl rfl trivial rfl rfl ?_;simp[h1,h2]
     ·have h2:=beqF h2;refine zag Tk (r:=ii 0) rfl rfl rfl trivial rfl rfl ?_;simp[h1,h2]
    ·have h1:=beqF h1;refine zaB Tk Tryz.func242 (by kernel_rfl) ?_;refine gcF Tk Tryz.func242 rfl ?_;refine zag Tk (r:=ii 0) rfl rfl rfl trivial rfl rfl ?_;simp[h1]
abbrev tr (p:Prop) [Decidable p]:Int:=if p then 1 else 0
def ap2 (op a b:Int):Int:=
 if op=2 then a+b else if op=3 then a-b else if op=4 then a*b else
 if op=6 then tr (a=b) else if op=7 then tr (a≠b) else if op=8 then tr (a<b) else if op=9 then tr (a≤b) else
 if op=11 then a*b else if a=0 then b else a
def ap1 (op a:Int):Int:=if op=5 then -a else 1-a
def zf3 (op:Int):List Int→Int
 |[a]=>ap1 op a
 |[a,b]=>ap2 op a b
 |_=>0
theorem mulb {a b:Int} (ha:-1073741824≤a∧a≤1073741824) (hb:-1073741824≤b∧b≤1073741824):-1152921504606846976≤a*b∧a*b≤1152921504606846976:=by
 have h1:(a.natAbs*b.natAbs)≤1073741824*1073741824:=Nat.mul_le_mul (by omega) (by omega);have h2:(a*b).natAbs=a.natAbs*b.natAbs:=Int.natAbs_mul a b;omega
theorem zza (O:List Heap) (op a b:Int) (hop:op=2∨op=3∨op=4∨op=6∨op=7∨op=8∨op=9∨op=11∨op=12) (ha:-1073741824≤a∧a≤1073741824) (hb:-1073741824≤b∧b≤1073741824)
  (hl:op=11∨op=12→(a=0∨a=1)∧(b=0∨b=1)):zao Tryz.prog 243 [ii op,ints [a,b]] O (ii (ap2 op a b)) [] O:=by
 have hm:=mulb ha hb;refine zaa Tk Tryz.func243 rfl Tryz.call243 Tryz.ntmps243 (Nat.le_of_ble_eq_true rfl) fun E=>?_;refine zai Tk Tryz.func243 ?_;rcases hop with rfl|rfl|rfl|rfl|rfl|rfl|rfl|rfl|rfl
 all_goals
  repeat (first|refine gcT Tk Tryz.func243 rfl ?_|refine gkT Tk Tryz.func243 rfl ?_|refine skT Tk ?_|refine gcF Tk Tryz.func243 rfl ?_|refine gkF Tk Tryz.func243 rfl ?_|refine skF Tk ?_)
  refine zav Tk Tryz.func243 zaz rfl ?_;refine zas Tk (by simp) ?_;refine zaE Tk (rfl) ?_;refine zas Tk (by simp) ?_;refine zaE Tk (rfl) ?_
 ·refine zaB Tk Tryz.func243 (by kernel_rfl) ?_;refine zag Tk (r:=ii _) rfl rfl rfl trivial rfl rfl ?_;exact congrArg ii (w64 (by omega) (by omega))
 ·refine zaB Tk Tryz.func243 (by kernel_rfl) ?_;refine zag Tk (r:=ii _) rfl rfl rfl trivial rfl rfl ?_;exact congrArg ii (w64 (by omega) (by omega))
 ·refine zaB Tk Tryz.func243 (by kernel_rfl) ?_;refine zag Tk (r:=ii _) rfl rfl rfl trivial rfl rfl ?_;exact congrArg ii (w64 (by omega) (by omega))
 ·refine zjM Tk (ziv _ _) rfl rfl rfl ?_;refine zaB Tk Tryz.func243 (by kernel_rfl) ?_;refine zag Tk (r:=ii _) rfl rfl rfl trivial rfl rfl ?_
  by_cases h:a=b<;>simp[ap2,tr,h]
 ·refine zjM Tk (ziv _ _) rfl rfl rfl ?_;refine zaB Tk Tryz.func243 (by kernel_rfl) ?_;refine zag Tk (r:=ii _) rfl rfl rfl trivial rfl rfl ?_
  by_cases h:a=b<;>simp[ap2,tr,h]
 ·refine zjM Tk (ziv _ _) rfl rfl rfl ?_;refine zaB Tk Tryz.func243 (by kernel_rfl) ?_;refine zag Tk (r:=ii _) rfl rfl rfl trivial rfl rfl ?_
  by_cases h:a<b<;>simp[ap2,tr,h]
 ·refine zjM Tk (ziv _ _) rfl rfl rfl ?_;refine zaB Tk Tryz.func243 (by kernel_rfl) ?_;refine zag Tk (r:=ii _) rfl rfl rfl trivial rfl rfl ?_
  by_cases h:a≤b<;>simp[ap2,tr,h]
 ·refine zaB Tk Tryz.func243 (by kernel_rfl) ?_;refine zag Tk (r:=ii _) rfl rfl rfl trivial rfl rfl ?_;obtain⟨rfl|rfl,rfl|rfl⟩:=hl (.inl rfl)<;>rfl
 ·refine zaB Tk Tryz.func243 (by kernel_rfl) ?_;refine zag Tk (r:=ii _) rfl rfl rfl trivial rfl rfl ?_;obtain⟨rfl|rfl,rfl|rfl⟩:=hl (.inr rfl)<;>rfl
theorem zzb (O:List Heap) (op a:Int) (hop:op=5∨op=10) (ha:-1073741824≤a∧a≤1073741824):zao Tryz.prog 243 [ii op,ints [a]] O (ii (ap1 op a)) [] O:=by
 refine zaa Tk Tryz.func243 rfl Tryz.call243 Tryz.ntmps243 (Nat.le_of_ble_eq_true rfl) fun E=>?_;refine zai Tk Tryz.func243 ?_;rcases hop with rfl|rfl
 all_goals
  repeat (first|refine gcT Tk Tryz.func243 rfl ?_|refine gkT Tk Tryz.func243 rfl ?_|refine skT Tk ?_|refine gcF Tk Tryz.func243 rfl ?_|refine gkF Tk Tryz.func243 rfl ?_|refine skF Tk ?_)
  refine zad Tk Tryz.func243 (by simp) ?_;refine zap Tk Tryz.func243 (rfl) ?_;refine zag Tk (r:=ii _) rfl rfl rfl trivial rfl rfl ?_
 ·exact congrArg ii ((w64 (by omega) (by omega)).trans (Int.zero_sub a))
 ·exact congrArg ii (w64 (by omega) (by omega))
def zce (x:Ex) (n:Int):Int×Int:=
 if n<0∨n>16 then (0,2) else if (zcA x n 1 0).1≠0 then (0,(zcA x n 1 0).1) else if zbi x=0 then (0,16) else (zbi x,0)
theorem zth (O:List Heap) (x:Ex) (n:Int) (hok:exOk x):zao Tryz.prog 206 [exD x,ii n] O (.tup [ii (zce x n).1,ii (zce x n).2]) [] O:=by
 have hf:=fun O ho=>zvq (SizeOf.sizeOf x+1) x (by omega) hok O 0 6 n 1 0 ho (by omega) (by omega) (by omega) (by omega);have hk:=fun hw O=>zyL n (SizeOf.sizeOf x+1) x (by omega) hw O;generalize hR:zce x n=R;unfold zce at hR;have hwf:=zgk x n 1 0;obtain⟨op,v,ix,args⟩:=x;refine zaa Tk Tryz.func206 rfl Tryz.call206 Tryz.ntmps206 (Nat.le_of_ble_eq_true rfl) fun E=>?_;refine zai Tk Tryz.func206 ?_;refine zaK Tk Tryz.func206 rfl (fun h1=>?_) (fun h1=>?_)
 ·have h1:n<0:=of_decide_eq_true h1;rw[if_pos (.inl h1)] at hR;subst hR;refine gcT Tk Tryz.func206 rfl ?_;refine zag Tk (r:=.tup [ii 0,ii 2]) rfl rfl rfl trivial rfl rfl ?_;rfl
 ·have h1:¬n<0:=of_decide_eq_false h1;refine zae Tk Tryz.func206 rfl (fun h2=>?_) (fun h2=>?_)
  ·have h2:16<n:=of_decide_eq_true h2;rw[if_pos (.inr h2)] at hR;subst hR;refine zag Tk (r:=.tup [ii 0,ii 2]) rfl rfl rfl trivial rfl rfl ?_;rfl
  ·have h2:¬16<n:=of_decide_eq_false h2;rw[if_neg (by omega)] at hR;refine zaj Tk Tryz.func206 (hf _ rfl) rfl rfl rfl (za7 (ob:=.box [ii 0]) rfl rfl) rfl ?_;generalize zcA (.mk op v ix args) n 1 0=Q at hR hwf;refine zae Tk Tryz.func206 rfl (fun h3=>?_) (fun h3=>?_)
   ·have h3:=bneT h3;rw[if_pos h3] at hR;subst hR;refine zag Tk (r:=.tup [ii 0,ii _]) rfl rfl rfl trivial rfl rfl ?_;rfl
   ·have h3:=bneF h3;rw[if_neg (by simpa using h3)] at hR;refine zaj Tk Tryz.func206 (hk (hwf h3) _) rfl rfl rfl rfl rfl ?_;generalize zbi (.mk op v ix args)=k at hR;refine zae Tk Tryz.func206 rfl (fun h4=>?_) (fun h4=>?_)
    ·have h4:=beqT h4;rw[if_pos h4] at hR;subst hR;refine zag Tk (r:=.tup [ii 0,ii 16]) rfl rfl rfl trivial rfl rfl ?_;rfl
    ·have h4:=beqF h4;rw[if_neg h4] at hR;subst hR;refine zag Tk (r:=.tup [ii _,ii 0]) rfl rfl rfl trivial rfl rfl ?_;rfl
def zbm (x:Ex) (n kind:Int):Int:=if (zce x n).2=0∧(zce x n).1≠kind then 16 else (zce x n).2
theorem zlY (O:List Heap) (x:Ex) (n k:Int) (hok:exOk x):zao Tryz.prog 203 [exD x,ii n,ii k] O (ii (zbm x n k)) [] O:=by
 have hc:=fun O=>zth O x n hok;unfold zbm;obtain⟨op,v,ix,args⟩:=x;generalize zce (.mk op v ix args) n=R at *;refine zaa Tk Tryz.func203 rfl Tryz.call203 Tryz.ntmps203 (Nat.le_of_ble_eq_true rfl) fun E=>?_;refine zai Tk Tryz.func203 ?_;refine zaj Tk Tryz.func203 (hc _) rfl rfl rfl rfl rfl ?_;refine zaK Tk Tryz.func203 rfl (fun h1=>?_) (fun h1=>?_)
 ·have h1:=beqT h1;refine zae Tk Tryz.func203 rfl (fun h2=>?_) (fun h2=>?_)
  ·have h2:=bneT h2;rw[if_pos ⟨h1,h2⟩];refine zag Tk (r:=ii 16) rfl rfl rfl trivial rfl rfl ?_;rfl
  ·have h2:=bneF h2;rw[if_neg (by simp[h1,h2])];refine zag Tk (r:=ii _) rfl rfl rfl trivial rfl rfl ?_;rfl
 ·have h1:=beqF h1;rw[if_neg (by simp[h1])];refine gcF Tk Tryz.func203 rfl ?_;refine zag Tk (r:=ii _) rfl rfl rfl trivial rfl rfl ?_;rfl
abbrev zg7 (a b:Int):Bool:=decide (b<a)||decide (a < -b)
mutual
def zca (vals:List Int):Ex→Int×Bool
 |.mk op v ix args=>
  if op=0 then (v,true) else if op=1 then (vals.getD ix.toNat 0,true) else if op=13 then zxK vals args else
  match zbr vals args with
  |none=>(0,false)
  |some l=>(zf3 op l,!zg7 (zf3 op l) 1073741824)
def zxK (vals:List Int):List Ex→Int×Bool
 |[c,a,b]=>if (zca vals c).2=false then (0,false) else if (zca vals c).1=1 then zca vals a else zca vals b
 |_=>(0,false)
def zbr (vals:List Int):List Ex→Option (List Int)
 |[]=>some []
 |e::r=>if (zca vals e).2=false then none else (zbr vals r).map ((zca vals e).1 :: ·)
end
def Ty2:List Int→List Int→Prop
 |[],[]=>True
 |x::xs,k::ks=>(-1073741824≤x∧x≤1073741824)∧(k=2→x=0∨x=1)∧Ty2 xs ks
 |_,_=>False
theorem tr01 (p:Prop) [Decidable p]:tr p=0∨tr p=1:=by unfold tr;split<;>simp
theorem zj8 {a b:Int} (h:(!zg7 a b)=true):-b≤a∧a≤b:=by
 have:=orF (notT h);omega
theorem zu6 {op:Int} {ks l:List Int} (ha:(arity op).2=true) (h0:op≠0) (h1:op≠1) (h13:op≠13) (hlen:(ks.length:Int)=(arity op).1) (ht:Ty2 l ks) (hk:zb2 op ks=2):zf3 op l=0∨zf3 op l=1:=by
 have two:∀{p:Nat},(ks.length:Int)=2→∃a b k1 k2,l=[a,b]∧ks=[k1,k2]:=by
  intro _ h
  match ks,l,ht with
  |[],_,_=>simp at h
  |[_],_,_=>simp at h
  |[k1,k2],[a,b],_=>exact⟨a,b,k1,k2,rfl,rfl⟩
  |_::_::_::_,_,_=>simp at h;omega
 have one:(ks.length:Int)=1→∃a k1,l=[a]∧ks=[k1]:=by
  intro h
  match ks,l,ht with
  |[],_,_=>simp at h
  |[k1],[a],_=>exact⟨a,k1,rfl,rfl⟩
  |_::_::_,_,_=>simp at h;omega
 rcases zeY ha with h|h|h|h|h
 ·omega
 ·unfold zb2 at hk;rw[if_neg (by omega),if_pos h] at hk
  split at hk<;>cases hk
 ·obtain⟨a,b,k1,k2,rfl,rfl⟩:=two (p:=0) (by rcases h with rfl|rfl|rfl|rfl<;>exact hlen);rcases h with rfl|rfl|rfl|rfl<;>exact tr01 _
 ·unfold zb2 at hk;rw[if_neg (by omega),if_neg (by omega),if_neg (by omega),if_pos h] at hk
  split at hk
  ·rename_i hall;rcases h with rfl|rfl|rfl
   ·obtain⟨a,k1,rfl,rfl⟩:=one hlen;simp only[List.all_cons,List.all_nil,Bool.and_true,decide_eq_true_eq] at hall;obtain⟨-,h2,-⟩:=ht;rcases h2 hall with rfl|rfl<;>decide
   all_goals
    obtain⟨a,b,k1,k2,rfl,rfl⟩:=two (p:=0) hlen;simp only[List.all_cons,List.all_nil,Bool.and_true,Bool.and_eq_true,decide_eq_true_eq] at hall;obtain⟨-,h2,-,h3,-⟩:=ht;rcases h2 hall.1 with rfl|rfl<;>rcases h3 hall.2 with rfl|rfl<;>decide
  ·cases hk
 ·omega
theorem zh4 {ks:List Int} (h:zb2 13 ks≠0):ks.getD 0 0=2∧ks.getD 1 0=ks.getD 2 0∧zb2 13 ks=ks.getD 1 0:=by
 unfold zb2 at h ⊢;rw[if_neg (by omega),if_neg (by omega),if_neg (by omega),if_neg (by omega),if_pos rfl] at h ⊢
 split at h
 ·rename_i h1;exact⟨h1.1,h1.2,by rw[if_pos h1]⟩
 ·exact absurd rfl h
theorem zj9 {args:List Ex} {ks:List Int} (h:za8 args=some ks):∀e∈args,zbi e≠0:=by
 induction args generalizing ks with
 |nil=>simp
 |cons e r ih=>
  simp only[za8] at h
  split at h
  ·cases h
  ·rename_i h1
   cases hk:za8 r with
   |none=>simp[hk] at h
   |some l=>
    intro x hx;rcases List.mem_cons.1 hx with rfl|hx
    ·exact h1
    ·exact ih hk x hx
theorem zqd {vals:List Int} {args:List Ex} {l:List Int} (h:zbr vals args=some l):l.length=args.length:=by
 induction args generalizing l with
 |nil=>simp only[zbr,Option.some.injEq] at h;subst h;rfl
 |cons e r ih=>
  simp only[zbr] at h
  split at h
  ·cases h
  ·cases hk:zbr vals r with
   |none=>simp[hk] at h
   |some l'=>
    simp only[hk,Option.map_some,Option.some.injEq] at h;subst h;simp[ih hk]
section
variable {n:Int} {vals:List Int} (hn:(vals.length:Int)=n) (hv:∀x∈vals,-65536≤x∧x≤65536)
include hn hv
theorem zlH:∀(N:Nat) (x:Ex),SizeOf.sizeOf x<N→wfE n x→zbi x≠0→(zca vals x).2=true→(-1073741824≤(zca vals x).1∧(zca vals x).1≤1073741824)∧(zbi x=2→(zca vals x).1=0∨(zca vals x).1=1):=by
 intro N
 induction N with
 |zero=>intro x h;omega
 |succ N ihN=>
  intro x hs hwf hk he;obtain⟨op,v,ix,args⟩:=x;simp only[wfE] at hwf;obtain⟨hform,hwf⟩:=hwf;obtain⟨ha,hb,-,hd⟩:=zb9 hform;have hch:∀e∈args,zbi e≠0→(zca vals e).2=true→(-1073741824≤(zca vals e).1∧(zca vals e).1≤1073741824)∧(zbi e=2→(zca vals e).1=0∨(zca vals e).1=1):=by
   intro e hm;have:=List.sizeOf_lt_of_mem hm;simp only[Ex.mk.sizeOf_spec] at hs;exact ihN e (by omega) (zeZ hwf e hm)
  simp only[zbi] at hk ⊢
  cases hks:za8 args with
  |none=>rw[hks] at hk;exact absurd rfl hk
  |some ks=>
   rw[hks] at hk;simp only at hk ⊢;have hkl:=zdi hks;simp only[zca] at he ⊢
   by_cases h0:op=0
   ·subst h0;simp only[if_pos] at he ⊢;refine⟨by omega,fun h=>?_⟩;simp[zb2] at h
   rw[if_neg h0] at he ⊢
   by_cases h1:op=1
   ·subst h1;simp only[if_pos] at he ⊢;refine⟨?_,fun h=>by simp[zb2] at h⟩;have hix:ix.toNat<vals.length:=by omega
    have:=hv _ (List.getElem_mem hix);rw[List.getD_eq_getElem?_getD,List.getElem?_eq_getElem hix];simp only[Option.getD_some];omega
   rw[if_neg h1] at he ⊢
   by_cases h13:op=13
   ·subst h13;simp only[if_pos] at he ⊢;have h3:args.length=3:=by have:(args.length:Int)=3:=hb;omega
    obtain⟨hk0,hk12,hkr⟩:=zh4 hk
    match args,h3 with
    |[c,a,b],_=>
     have hnz:=zj9 hks;have hkk:ks=[zbi c,zbi a,zbi b]:=by
      simp only[za8,if_neg (hnz c (by simp)),if_neg (hnz a (by simp)),if_neg (hnz b (by simp)),Option.map_some,Option.some.injEq] at hks;exact hks.symm
     subst hkk;simp only[List.getD_cons_zero,List.getD_cons_succ] at hk0 hk12 hkr;rw[hkr];simp only[zxK] at he ⊢
     by_cases hc:(zca vals c).2=false
     ·rw[if_pos hc] at he;cases he
     rw[if_neg hc] at he ⊢
     split at he
     ·rename_i h4;rw[if_pos h4];exact hch a (by simp) (hnz a (by simp)) he
     ·rename_i h4;rw[if_neg h4,hk12];exact hch b (by simp) (hnz b (by simp)) he
   rw[if_neg h13] at he ⊢
   cases hl:zbr vals args with
   |none=>rw[hl] at he;cases he
   |some l=>
    rw[hl] at he;simp only at he ⊢;have hty:Ty2 l ks:=by
     clear hb hform hk hd he hs hkl
     induction args generalizing l ks with
     |nil=>
      simp only[zbr,Option.some.injEq] at hl;simp only[za8,Option.some.injEq] at hks;subst hl;subst hks
      trivial
     |cons e r ih=>
      simp only[zbr] at hl;simp only[za8] at hks
      split at hl
      ·cases hl
      rename_i e1
      split at hks
      ·cases hks
      rename_i e2
      cases hk1:za8 r with
      |none=>simp[hk1] at hks
      |some ks'=>
       cases hl1:zbr vals r with
       |none=>simp[hl1] at hl
       |some l'=>
        simp only[hk1,Option.map_some,Option.some.injEq] at hks;simp only[hl1,Option.map_some,Option.some.injEq] at hl;subst hks;subst hl;have:=hch e (by simp) e2 (by simpa using e1);exact⟨this.1,this.2,ih (by simp only[wfEs] at hwf;exact hwf.2) (fun x hx=>hch x (by simp[hx])) ks' hk1 l' hl1⟩
    exact⟨zj8 he,zu6 ha h0 h1 h13 (by rw[hkl];exact hb) hty⟩
end
end Go.AI
namespace Go.AI
open Go.Proofs
set_option maxRecDepth 20000
theorem zlI {vals:List Int} {args:List Ex} {i:Nat} {l:List Int} (h:i<args.length) (hl:zbr vals (args.take i)=some l):zbr vals (args.take (i+1))=if (zca vals args[i]).2=false then none else some (l++[(zca vals args[i]).1]):=by
 induction args generalizing i l with
 |nil=>simp at h
 |cons e r ih=>
  cases i with
  |zero=>
   simp only[List.take_zero,zbr,Option.some.injEq] at hl;subst hl;simp[zbr]
  |succ i=>
   simp only[List.take_succ_cons,zbr] at hl ⊢
   split at hl
   ·cases hl
   ·rename_i h1;rw[if_neg h1]
    cases hk:zbr vals (r.take i) with
    |none=>simp[hk] at hl
    |some l'=>
     simp only[hk,Option.map_some,Option.some.injEq] at hl;subst hl;rw[ih (by simpa using h) hk];simp only[List.getElem_cons_succ]
     split<;>simp
theorem zlJ {vals:List Int} {args:List Ex} {i:Nat} (hl:zbr vals (args.take i)=none):zbr vals args=none:=by
 induction args generalizing i with
 |nil=>simpa using hl
 |cons e r ih=>
  cases i with
  |zero=>simp[zbr] at hl
  |succ i=>
   simp only[List.take_succ_cons,zbr] at hl ⊢
   split at hl
   ·rename_i h1;rw[if_pos h1]
   ·rename_i h1;rw[if_neg h1]
    cases hk:zbr vals (r.take i) with
    |none=>rw[ih hk];rfl
    |some l=>simp[hk] at hl
theorem zzv (O:List Heap) {op:Int} {l ks:List Int} (ha:(arity op).2=true) (h0:op≠0) (h1:op≠1) (h13:op≠13) (hlen:(ks.length:Int)=(arity op).1) (ht:Ty2 l ks) (hk:zb2 op ks≠0):zao Tryz.prog 243 [ii op,ints l] O (ii (zf3 op l)) [] O:=by
 have two:(ks.length:Int)=2→∃a b k1 k2,l=[a,b]∧ks=[k1,k2]:=by
  intro h
  match ks,l,ht with
  |[],_,_=>simp at h
  |[_],_,_=>simp at h
  |[k1,k2],[a,b],_=>exact⟨a,b,k1,k2,rfl,rfl⟩
  |_::_::_::_,_,_=>simp at h;omega
 have one:(ks.length:Int)=1→∃a k1,l=[a]∧ks=[k1]:=by
  intro h
  match ks,l,ht with
  |[],_,_=>simp at h
  |[k1],[a],_=>exact⟨a,k1,rfl,rfl⟩
  |_::_::_,_,_=>simp at h;omega
 have c2:(op=2∨op=3∨op=4∨op=6∨op=7∨op=8∨op=9∨op=11∨op=12)→zao Tryz.prog 243 [ii op,ints l] O (ii (zf3 op l)) [] O:=by
  intro h;have h2:(arity op).1=2:=by rcases h with rfl|rfl|rfl|rfl|rfl|rfl|rfl|rfl|rfl<;>rfl
  obtain⟨a,b,k1,k2,rfl,rfl⟩:=two (by rw[hlen,h2]);obtain⟨a1,a2,b1,b2,-⟩:=ht;refine zza O op a b h a1 b1 fun hop=>?_;unfold zb2 at hk;rw[if_neg (by omega),if_neg (by omega),if_neg (by omega),if_pos (by omega)] at hk
  split at hk
  ·rename_i hall;simp only[List.all_cons,List.all_nil,Bool.and_true,Bool.and_eq_true,decide_eq_true_eq] at hall;exact⟨a2 hall.1,b2 hall.2⟩
  ·exact absurd rfl hk
 have c1:(op=5∨op=10)→zao Tryz.prog 243 [ii op,ints l] O (ii (zf3 op l)) [] O:=by
  intro h;have h2:(arity op).1=1:=by rcases h with rfl|rfl<;>rfl
  obtain⟨a,k1,rfl,rfl⟩:=one (by rw[hlen,h2]);exact zzb O op a h ht.1
 rcases zeY ha with h|h|h|h|h
 ·omega
 ·rcases h with h|h|h|h
  ·exact c2 (by omega)
  ·exact c2 (by omega)
  ·exact c2 (by omega)
  ·exact c1 (by omega)
 ·exact c2 (by omega)
 ·rcases h with h|h|h
  ·exact c1 (by omega)
  ·exact c2 (by omega)
  ·exact c2 (by omega)
 ·omega
theorem zvW {n:Int} {vals:List Int} (hn:(vals.length:Int)=n) (hv:∀x∈vals,-65536≤x∧x≤65536):∀(args:List Ex) (l ks:List Int),wfEs n args→zbr vals args=some l→za8 args=some ks→Ty2 l ks
 |[],l,ks,_,hl,hks=>by
  simp only[zbr,Option.some.injEq] at hl;simp only[za8,Option.some.injEq] at hks;subst hl;subst hks
  trivial
 |e::r,l,ks,hwf,hl,hks=>by
  simp only[zbr] at hl;simp only[za8] at hks
  split at hl
  ·cases hl
  rename_i e1
  split at hks
  ·cases hks
  rename_i e2
  cases hk1:za8 r with
  |none=>simp[hk1] at hks
  |some ks'=>
   cases hl1:zbr vals r with
   |none=>simp[hl1] at hl
   |some l'=>
    simp only[hk1,Option.map_some,Option.some.injEq] at hks;simp only[hl1,Option.map_some,Option.some.injEq] at hl;subst hks;subst hl;simp only[wfEs] at hwf;have:=zlH hn hv _ e (Nat.lt_succ_self _) hwf.1 e2 (by simpa using e1);exact⟨this.1,this.2,zvW hn hv r l' ks' hwf.2 hl1 hk1⟩
theorem zqb {n:Int} {vals:List Int} (hn:(vals.length:Int)=n) (hv:∀x∈vals,-65536≤x∧x≤65536):∀(N:Nat) (x:Ex),SizeOf.sizeOf x<N→wfE n x→zbi x≠0→∀O,
  zao Tryz.prog 208 [exD x,ints vals] O (.tup [ii (zca vals x).1,bb (zca vals x).2]) [] O:=by
 intro N
 induction N with
 |zero=>intro x h;omega
 |succ N ihN=>
  intro x hs hwf hk O;have hty:=zlH hn hv _ x (Nat.lt_succ_self _) hwf hk;obtain⟨op,v,ix,args⟩:=x;simp only[wfE] at hwf;obtain⟨hform,hwf⟩:=hwf;obtain⟨ha,hb,-,hd⟩:=zb9 hform;have hch:∀e∈args,zbi e≠0→∀O,zao Tryz.prog 208 [exD e,ints vals] O (.tup [ii (zca vals e).1,bb (zca vals e).2]) [] O:=by
   intro e hm hke O;have:=List.sizeOf_lt_of_mem hm;simp only[Ex.mk.sizeOf_spec] at hs;exact ihN e (by omega) (zeZ hwf e hm) hke O
  have hlen3:args.length≤3:=by have:=zgo op;omega
  have hlen:args.length≤zar:=by simp only[zar];omega
  clear ihN hs hform;simp only[zbi] at hk
  cases hks:za8 args with
  |none=>rw[hks] at hk;exact absurd rfl hk
  |some ks=>
   rw[hks] at hk;simp only at hk;have hkl:=zdi hks;have hnz:=zj9 hks;simp only[zca] at *;refine zaM [20] Tk Tryz.func208 rfl Tryz.call208 Tryz.ntmps208 (Nat.le_of_ble_eq_true rfl) fun E=>?_;refine zai Tk Tryz.func208 ?_;refine zae Tk Tryz.func208 rfl (fun h0=>?_) (fun h0=>?_)
   ·have h0:=beqT h0;subst h0;rw[if_pos rfl];refine zag Tk (r:=.tup [ii v,bb true]) rfl rfl rfl trivial rfl rfl ?_;rfl
   have h0:=beqF h0;rw[if_neg h0] at *;refine zae Tk Tryz.func208 rfl (fun h1=>?_) (fun h1=>?_)
   ·have h1:=beqT h1;subst h1;rw[if_pos rfl];have hix:ix.toNat<vals.length:=by omega
    refine zad Tk Tryz.func208 (by omega) ?_;refine zap Tk Tryz.func208 (zvn (f:=fun x=>[vi x]) (i:=ix.toNat) (by omega) hix) ?_;refine zag Tk (r:=.tup [ii _,bb true]) rfl rfl rfl trivial rfl rfl ?_;rw[List.getD_eq_getElem?_getD,List.getElem?_eq_getElem hix];rfl
   have h1:=beqF h1;rw[if_neg h1] at *;refine zae Tk Tryz.func208 rfl (fun h13=>?_) (fun h13=>?_)
   ·have h13:=beqT h13;subst h13;rw[if_pos rfl] at *;have h3:args.length=3:=by have:(args.length:Int)=3:=hb;omega
    obtain⟨hk0,hk12,hkr⟩:=zh4 hk
    match args,h3 with
    |[c,a,b],_=>
     have hkk:ks=[zbi c,zbi a,zbi b]:=by
      simp only[za8,if_neg (hnz c (by simp)),if_neg (hnz a (by simp)),if_neg (hnz b (by simp)),Option.map_some,Option.some.injEq] at hks;exact hks.symm
     subst hkk;simp only[List.getD_cons_zero,List.getD_cons_succ] at hk0 hk12 hkr;simp only[zxK];have hc1:=zlH hn hv _ c (Nat.lt_succ_self _) (by simp only[wfEs] at hwf;exact hwf.1) (hnz c (by simp));have sc:=hch c (by simp) (hnz c (by simp));have sa:=hch a (by simp) (hnz a (by simp));have sb:=hch b (by simp) (hnz b (by simp));clear hch hty hwf hnz;obtain⟨co,cv,ci,ca⟩:=c;obtain⟨ao,av,ai,aa⟩:=a;obtain⟨bo,bv,bi,ba⟩:=b;generalize zca vals (.mk co cv ci ca)=rc at *;obtain⟨r1,r2⟩:=rc;refine zad Tk Tryz.func208 (by simp) ?_;refine zap Tk Tryz.func208 (rfl) ?_;refine zaj Tk Tryz.func208 (sc _) rfl rfl rfl rfl rfl ?_;refine zae Tk Tryz.func208 rfl (fun h2=>?_) (fun h2=>?_)
     ·have h2:r2=false:=notT h2;subst h2;rw[if_pos rfl];refine zag Tk (r:=.tup [ii 0,bb false]) rfl rfl rfl trivial rfl rfl ?_;rfl
     ·have h2:r2=true:=notF h2;subst h2;rw[if_neg (by simp)];rcases (hc1 rfl).2 hk0 with h4|h4
      ·simp only at h4;subst h4;rw[if_neg (by simp)];refine zad Tk Tryz.func208 (by exact⟨by decide,by simp[w64]⟩) ?_;refine zap Tk Tryz.func208 (rfl) ?_;refine zaj Tk Tryz.func208 (sb _) rfl rfl rfl rfl rfl ?_;refine zag Tk (r:=.tup [ii _,bb _]) rfl rfl rfl trivial rfl rfl ?_;rfl
      ·simp only at h4;subst h4;rw[if_pos rfl];refine zad Tk Tryz.func208 (by exact⟨by decide,by simp[w64]⟩) ?_;refine zap Tk Tryz.func208 (rfl) ?_;refine zaj Tk Tryz.func208 (sa _) rfl rfl rfl rfl rfl ?_;refine zag Tk (r:=.tup [ii _,bb _]) rfl rfl rfl trivial rfl rfl ?_;rfl
   have h13:=beqF h13;rw[if_neg h13] at *
   apply zv9 (P:=fun l=>zbr vals args=some l) (s6:=fun l=>{ σ:=[(2,.own 0 2 0 0),(8,ints l)],S:=[(2,.box [ii op,ii v,ii ix,exs args])]::O,n:=78})
   ·intro J;refine zah ?_;refine zaq (zbn 8 68 3 1 rfl rfl rfl) ?_;refine zak (fun x:Nat×List Int=>[(1,ints vals),(2,.own 0 2 0 0),(8,.osl 0 68),(51,exs args),(52,ii args.length),(53,ii x.1)]) (fun x=>[(68,zb7 x.2),(2,.box [ii op,ii v,ii ix,exs args])]) (fun _=>O) 78
     (fun x=>x.1≤args.length∧zbr vals (args.take x.1)=some x.2) (fun x=>args.length-x.1) (0,[]) ⟨Nat.zero_le _,rfl⟩ ⟨rfl,rfl,rfl,rfl,rfl,rfl,trivial⟩ rfl ⟨rfl,rfl,trivial⟩ rfl rfl ?_
    rintro ⟨i,l⟩ ⟨hi,hno⟩ ih;simp only at hi hno;refine zai Tk Tryz.func208 ?_;refine zae Tk Tryz.func208 rfl (fun h5=>?_) (fun h5=>?_)
    ·have h5:i<args.length:=by simpa using h5
     have hm:=List.getElem_mem h5;have hg:=zgn h5;have ht:=zlI h5 hno;have hll:=zqd hno;simp only[List.length_take,Nat.min_eq_left hi] at hll;generalize args[i]=e at hm hg ht;have hce:=fun O=>hch e hm (hnz e hm) O;obtain⟨eo,ev,ei,ea⟩:=e;simp only[exI] at hg;refine zad Tk Tryz.func208 (by omega) ?_;refine zap Tk Tryz.func208 (hg) ?_;refine zaj Tk Tryz.func208 (hce _) rfl rfl rfl rfl rfl ?_;generalize zca vals (.mk eo ev ei ea)=k at ht;refine zae Tk Tryz.func208 rfl (fun h6=>?_) (fun h6=>?_)
     ·have h6:=notT h6;rw[if_pos h6] at ht;rw[zlJ ht];refine zag Tk (r:=.tup [ii 0,bb false]) rfl rfl rfl trivial rfl rfl ?_;rfl
     ·have h6:=notF h6;rw[if_neg (by rw[h6];simp)] at ht;refine zad Tk Tryz.func208 (by exact⟨by show (l.length+1)*8≤140737488355328;omega,by show l.length+1≤9223372036854775807;omega⟩) ?_;refine zah ?_;refine ih (i+1,l++[k.1]) _ _ ⟨h5,ht⟩ (by simp only;omega) ⟨rfl,rfl,rfl,rfl,rfl,congrArg ii (zaC h5 hlen),trivial⟩ rfl ⟨congrArg some (zcM l k.1),rfl,trivial⟩ rfl rfl
    ·have h5:args.length≤i:=by simpa using h5
     rw[List.take_of_length_le h5] at hno;refine zat ?_;refine zaq (zam 68 rfl rfl) ?_;refine zdq (l:=[(2,.own 0 2 0 0),(8,ints l)]) (Hv:=[(2,.box [ii op,ii v,ii ix,exs args])]) ⟨rfl,rfl,trivial⟩ rfl ⟨rfl,trivial⟩ rfl rfl (J l hno)
   ·intro l hl;have ht:=zvW hn hv args l ks hwf hl hks;rw[hl];refine zai Tk Tryz.func208 ?_;refine g_go Tk Tryz.func208 ?_;refine zaj Tk Tryz.func208 (zzv _ ha h0 h1 h13 (by rw[hkl];exact hb) ht hk) rfl rfl rfl rfl rfl ?_;refine zaj Tk Tryz.func208 (ziV _ (zf3 op l) 1073741824 (by decide) (by decide)) rfl rfl rfl rfl rfl ?_;refine zag Tk (r:=.tup [ii _,bb _]) rfl rfl rfl trivial rfl rfl ?_;rfl
def zdz (x:Ex) (vals:List Int):Int×Int:=
 if (zce x vals.length).2≠0 then (0,(zce x vals.length).2) else
 if vals.any (fun n=>zg7 n 65536) then (0,2) else
 if (zca vals x).2=false then (0,17) else ((zca vals x).1,0)
theorem zy9 (O:List Heap) (a:Int):zao Tryz.prog 207 [ii a] O (bb (zg7 a 65536)) [] O:=by
 refine zaa Tk Tryz.func207 rfl Tryz.call207 Tryz.ntmps207 (Nat.le_of_ble_eq_true rfl) fun E=>?_;refine zai Tk Tryz.func207 ?_;refine zaj Tk Tryz.func207 (ziV _ a 65536 (by decide) (by decide)) rfl rfl rfl rfl rfl ?_;refine zag Tk (r:=bb _) rfl rfl rfl trivial rfl rfl ?_;rfl
theorem zki (O:List Heap) (l:List Int) (f:Nat) (p:Int→Bool) (hl:l.length≤zar) (hp:∀x∈l,∀O,zao Tryz.prog f [ii x] O (bb (p x)) [] O) :
  zao Tryz.prog 151 [ints l,.fn (.func f) [] []] O (ii (zaw p l 0)) [] O:=by
 refine zaa Tk Tryz.func151 rfl Tryz.call151 Tryz.ntmps151 (Nat.le_of_ble_eq_true rfl) fun E=>?_;refine zai Tk Tryz.func151 ?_;refine zah ?_;refine zb0 (fun i:Nat=>[(0,ints l),(1,.fn (.func f) [] []),(6,ints l),(7,ii l.length),(8,ii i)]) (fun _=>[]::O) 19 (fun i=>i≤l.length∧zaw p l 0=zaw p (l.drop i) i) (fun i=>l.length-i) 0 ⟨Nat.zero_le _,rfl⟩ ⟨rfl,rfl,rfl,rfl,rfl,trivial⟩ rfl rfl ?_;intro i ⟨hi,hno⟩ ih;rw[hno];rw[hno] at ih;refine zai Tk Tryz.func151 ?_;refine zae Tk Tryz.func151 rfl (fun h1=>?_) (fun h1=>?_)
 ·have h1:i<l.length:=by simpa using h1
  have hd:l.drop i=l[i]::l.drop (i+1):=(List.drop_eq_getElem_cons h1);refine zad Tk Tryz.func151 (by omega) ?_;refine zap Tk Tryz.func151 (zan h1) ?_;refine zaj Tk Tryz.func151 (hp l[i] (List.getElem_mem h1) _) rfl rfl rfl rfl rfl ?_;refine zae Tk Tryz.func151 rfl (fun h2=>?_) (fun h2=>?_)
  ·refine zag Tk (r:=ii _) rfl rfl rfl trivial rfl rfl ?_;rw[hd];simp only[zaw];rw[if_pos h2]
  ·refine zah ?_;refine ih (i+1) _ ⟨h1,?_⟩ (by omega) ⟨rfl,rfl,rfl,rfl,congrArg ii (zaC h1 hl),trivial⟩ rfl rfl;rw[hd];simp only[zaw];rw[if_neg (by rw[h2];simp)]
 ·have h1:l.length≤i:=by simpa using h1
  refine zag Tk (r:=ii _) rfl rfl rfl trivial rfl rfl ?_;rw[List.drop_eq_nil_of_le h1];rfl
theorem zhr (O:List Heap) (l:List Int) (f:Nat) (p:Int→Bool) (hl:l.length≤zar) (hp:∀x∈l,∀O,zao Tryz.prog f [ii x] O (bb (p x)) [] O) :
  zao Tryz.prog 73 [ints l,.fn (.func f) [] []] O (bb (l.any p)) [] O:=by
 refine zaa Tk Tryz.func73 rfl Tryz.call73 Tryz.ntmps73 (Nat.le_of_ble_eq_true rfl) fun E=>?_;refine zai Tk Tryz.func73 ?_;refine zaj Tk Tryz.func73 (zki _ l f p hl hp) rfl rfl rfl rfl rfl ?_;refine zag Tk (r:=bb _) rfl rfl rfl trivial rfl rfl ?_;exact congrArg bb (zbq p l 0)
theorem zkO {x:Ex} {n:Int} (h:(zce x n).2=0):(zcA x n 1 0).1=0∧zbi x≠0∧0≤n∧n≤16∧(zce x n).1=zbi x:=by
 unfold zce at h ⊢
 by_cases h1:n<0∨n>16
 ·rw[if_pos h1] at h;cases h
 rw[if_neg h1] at h ⊢
 by_cases h2:(zcA x n 1 0).1≠0
 ·rw[if_pos h2] at h;exact absurd h h2
 rw[if_neg h2] at h ⊢
 by_cases h3:zbi x=0
 ·rw[if_pos h3] at h;cases h
 rw[if_neg h3];exact⟨by simpa using h2,h3,by omega,by omega,rfl⟩
theorem ztt {vals:List Int} (h:vals.any (fun n=>zg7 n 65536)=false):∀x∈vals,-65536≤x∧x≤65536:=by
 intro x hx;rw[List.any_eq_false] at h;have:=h x hx;simp[zg7] at this;omega
theorem zqc (O:List Heap) (x:Ex) (vals:List Int) (hok:exOk x) (hl:vals.length≤zar):zao Tryz.prog 149 [exD x,ints vals] O (.tup [ii (zdz x vals).1,ii (zdz x vals).2]) [] O:=by
 have hc:=fun O=>zth O x vals.length hok;have hco:=@zkO x vals.length;have hwf:=zgk x vals.length 1 0;have hev:=fun hv hw hk O=>zqb (n:=vals.length) (vals:=vals) rfl hv _ x (Nat.lt_succ_self _) hw hk O;unfold zdz;obtain⟨op,v,ix,args⟩:=x;generalize zce (.mk op v ix args) vals.length=R at *;refine zaa Tk Tryz.func149 rfl Tryz.call149 Tryz.ntmps149 (Nat.le_of_ble_eq_true rfl) fun E=>?_;refine zai Tk Tryz.func149 ?_;refine zaj Tk Tryz.func149 (hc _) rfl rfl rfl rfl rfl ?_;refine zae Tk Tryz.func149 rfl (fun h1=>?_) (fun h1=>?_)
 ·have h1:=bneT h1;rw[if_pos h1];refine zag Tk (r:=.tup [ii 0,ii _]) rfl rfl rfl trivial rfl rfl ?_;rfl
 ·have h1:=bneF h1;obtain⟨c1,c2,-,-,-⟩:=hco h1;rw[if_neg (by simpa using h1)];refine zaj Tk Tryz.func149 (zhr _ vals 207 (fun n=>zg7 n 65536) hl (fun x _ O=>zy9 O x)) rfl rfl rfl rfl rfl ?_;refine zae Tk Tryz.func149 rfl (fun h2=>?_) (fun h2=>?_)
  ·rw[if_pos h2];refine zag Tk (r:=.tup [ii 0,ii 2]) rfl rfl rfl trivial rfl rfl ?_;rfl
  ·rw[if_neg (by rw[h2];simp)];refine zaj Tk Tryz.func149 (hev (ztt h2) (hwf c1) c2 _) rfl rfl rfl rfl rfl ?_;refine zae Tk Tryz.func149 rfl (fun h3=>?_) (fun h3=>?_)
   ·have h3:=notT h3;rw[if_pos h3];refine zag Tk (r:=.tup [ii 0,ii 17]) rfl rfl rfl trivial rfl rfl ?_;rfl
   ·have h3:=notF h3;rw[if_neg (by rw[h3];simp)];refine zag Tk (r:=.tup [ii _,ii 0]) rfl rfl rfl trivial rfl rfl ?_;rfl
def Ex.op:Ex→Int|.mk o _ _ _=>o
def Ex.vl:Ex→Int|.mk _ v _ _=>v
def Ex.ix:Ex→Int|.mk _ _ i _=>i
def Ex.args:Ex→List Ex|.mk _ _ _ a=>a
abbrev exA (x:Ex):D:=.agg [ii x.op,ii x.vl,ii x.ix,exs x.args]
theorem zwe (x:Ex):exD x=exA x:=by cases x;rfl
theorem zsW (x:Ex):exI x=[vi x.op,vi x.vl,vi x.ix,.sl 4 x.args.length (exIs x.args)]:=by cases x;simp[exI,Ex.op,Ex.vl,Ex.ix,Ex.args]
structure Upd where
 v:Int
 x:Ex
abbrev updI (u:Upd):List I:=[vi u.v,vi u.x.op,vi u.x.vl,vi u.x.ix,.sl 4 u.x.args.length (exIs u.x.args)]
abbrev upds (l:List Upd):D:=.i (.sl 5 l.length (l.map updI))
structure Mv where
 frm:Int
 ev:Int
 to:Int
 g:Ex
 us:List Upd
abbrev mvI (m:Mv):List I:=[vi m.frm,vi m.ev,vi m.to,vi m.g.op,vi m.g.vl,vi m.g.ix,.sl 4 m.g.args.length (exIs m.g.args),.sl 5 m.us.length (m.us.map updI)]
abbrev mvs (l:List Mv):D:=.i (.sl 8 l.length (l.map mvI))
structure Ext where
 alpha:List Int
 locs:Int
 init:Int
 marked:List Int
 vars:List Vr
 moves:List Mv
abbrev extD (m:Ext):D:=.agg [ints m.alpha,ii m.locs,ii m.init,ints m.marked,vrs m.vars,mvs m.moves]
abbrev extC (m:Ext):List D:=[ints m.alpha,ii m.locs,ii m.init,ints m.marked,vrs m.vars,mvs m.moves]
structure Sta where
 loc:Int
 vals:List Int
abbrev staD (s:Sta):D:=.agg [ii s.loc,ints s.vals]
abbrev staI (s:Sta):List I:=[vi s.loc,zdj s.vals]
def mvOk (x:Mv):Prop:=exOk x.g∧x.us.length≤zar∧∀u∈x.us,exOk u.x
structure extOk (m:Ext):Prop where
 al:m.alpha.length≤zar
 ma:m.marked.length≤zar
 va:m.vars.length≤zar
 na:∀v∈m.vars,v.name.size≤zar
 mo:m.moves.length≤zar
 mv:∀x∈m.moves,mvOk x
theorem zf1 (O:List Heap) (x:Ex) (n k:Int) (hok:exOk x):zao Tryz.prog 203 [exA x,ii n,ii k] O (ii (zbm x n k)) [] O:=by rw[←zwe];exact zlY O x n k hok
theorem zeS (O:List Heap) (x:Ex) (vals:List Int) (hok:exOk x) (hl:vals.length≤zar):zao Tryz.prog 149 [exA x,ints vals] O (.tup [ii (zdz x vals).1,ii (zdz x vals).2]) [] O:=by rw[←zwe];exact zqc O x vals hok hl
def zcX (n:Int):Option Int→List Upd→Int
 |_,[]=>0
 |prev,u::r=>if u.v<0∨u.v≥n then 2 else if prev.any (u.v ≤ ·) then 5 else if zbm u.x n 1≠0 then zbm u.x n 1 else zcX n (some u.v) r
def zj4 (m:Ext) (prev:Option Mv) (x:Mv):Int:=
 if x.frm<0∨x.frm≥m.locs∨x.to<0∨x.to≥m.locs then 2 else
 if x.ev ∉ m.alpha then 9 else
 if prev.any (fun p=>decide (x.frm<p.frm∨(x.frm=p.frm∧x.ev<p.ev))) then 5 else
 if zbm x.g m.vars.length 2≠0 then zbm x.g m.vars.length 2 else zcX m.vars.length none x.us
def zem {α:Type} (l:List α) (i:Nat):Option α:=if i=0 then none else l[i-1]?
theorem zuk {i n:Nat} (h0:0<i) (h:i<n) (hn:n≤zar):IntKind.i64.wrap ((i:Int)-1)=((i-1:Nat):Int):=by
 simp only[zar] at hn;rw[w64 (by omega) (by omega)];omega
theorem zjU {α:Type} {l:List α} {i:Nat} (h0:0<i) (h:i<l.length):zem l i=some (l[i-1]'(by omega)):=by
 unfold zem;rw[if_neg (by omega),List.getElem?_eq_getElem]
theorem zlX (O:List Heap) (m:Ext) (i:Nat) (hi:i<m.moves.length) (hs:m.alpha.Pairwise (· < ·)) (hok:extOk m):zao Tryz.prog 146 [extD m,ii i] O (ii (zj4 m (zem m.moves i) m.moves[i])) [] O:=by
 have hx:=hok.mv _ (List.getElem_mem hi);have hg:(m.moves.map mvI)[(i:Int).toNat]? = some (mvI m.moves[i]):=zan hi;generalize hR:zj4 m (zem m.moves i) m.moves[i]=R;have hp0:0<i→zem m.moves i=some (m.moves[i-1]'(by omega)):=fun h=>zjU h hi;have hgp:∀h:0<i,(m.moves.map mvI)[(IntKind.i64.wrap ((i:Int)-1)).toNat]? = some (mvI (m.moves[i-1]'(by omega))):=fun h=>by
  rw[zuk h hi hok.mo];exact zan (by omega)
 have hpn:i=0→zem m.moves i=none:=fun h=>by unfold zem;rw[if_pos h]
 generalize m.moves[i]=x at *;obtain⟨xf,xe,xt,xg,xu⟩:=x;obtain⟨hx1,hx2,hx3⟩:=hx;simp only at hx1 hx2 hx3;have hmo:=hok.mo;unfold zj4 at hR;simp only at hR;refine zaM [4,6,8,18] Tk Tryz.func146 rfl Tryz.call146 Tryz.ntmps146 (Nat.le_of_ble_eq_true rfl) fun E=>?_;refine zai Tk Tryz.func146 ?_;refine zad Tk Tryz.func146 (by omega) ?_;refine zap Tk Tryz.func146 (hg) ?_
 apply zbK (P:=¬(xf<0∨xf≥m.locs∨xt<0∨xt≥m.locs)) (s6:={ σ:=[(1,ii i),(2,.own 0 2 0 0),(5,.own 0 5 0 0)],S:=[(5,.box [ii xf,ii xe,ii xt,ii xg.op,ii xg.vl,ii xg.ix,exs xg.args,upds xu]),(2,.box (extC m))]::O,n:=138})
 ·intro J;have bad:(xf<0∨xf≥m.locs∨xt<0∨xt≥m.locs)→R=2:=fun h=>by rw[←hR,if_pos h]
  refine zaK Tk Tryz.func146 rfl (fun h1=>?_) (fun h1=>?_)
  ·have:=bad (.inl (of_decide_eq_true h1));subst this
   repeat (first|refine gcT Tk Tryz.func146 rfl ?_|refine gkT Tk Tryz.func146 rfl ?_|refine skT Tk ?_|refine gcF Tk Tryz.func146 rfl ?_|refine gkF Tk Tryz.func146 rfl ?_|refine skF Tk ?_)
   refine zag Tk (r:=ii 2) rfl rfl rfl trivial rfl rfl ?_;rfl
  have h1:¬xf<0:=of_decide_eq_false h1;refine zaK Tk Tryz.func146 rfl (fun h2=>?_) (fun h2=>?_)
  ·have:=bad (.inr (.inl (of_decide_eq_true h2)));subst this
   repeat (first|refine gcT Tk Tryz.func146 rfl ?_|refine gkT Tk Tryz.func146 rfl ?_|refine skT Tk ?_|refine gcF Tk Tryz.func146 rfl ?_|refine gkF Tk Tryz.func146 rfl ?_|refine skF Tk ?_)
   refine zag Tk (r:=ii 2) rfl rfl rfl trivial rfl rfl ?_;rfl
  have h2:¬xf≥m.locs:=of_decide_eq_false h2;refine zaK Tk Tryz.func146 rfl (fun h3=>?_) (fun h3=>?_)
  ·have:=bad (.inr (.inr (.inl (of_decide_eq_true h3))));subst this;refine gcT Tk Tryz.func146 rfl ?_;refine zag Tk (r:=ii 2) rfl rfl rfl trivial rfl rfl ?_;rfl
  have h3:¬xt<0:=of_decide_eq_false h3;refine zae Tk Tryz.func146 rfl (fun h4=>?_) (fun h4=>?_)
  ·have:=bad (.inr (.inr (.inr (of_decide_eq_true h4))));subst this;refine zag Tk (r:=ii 2) rfl rfl rfl trivial rfl rfl ?_;rfl
  have h4:¬xt≥m.locs:=of_decide_eq_false h4;refine zat ?_;refine zau (J (by omega)) ⟨rfl,rfl,rfl,trivial⟩ rfl ⟨rfl,rfl,trivial⟩ rfl rfl
 ·intro hP;rw[if_neg hP] at hR;refine zai Tk Tryz.func146 ?_;refine g_go Tk Tryz.func146 ?_;refine zaj Tk Tryz.func146 (zih _ m.alpha xe hok.al hs) rfl rfl rfl rfl rfl ?_;refine zae Tk Tryz.func146 rfl (fun h1=>?_) (fun h1=>?_)
  ·have h1:xe ∉ m.alpha:=by simpa using h1
   rw[if_pos h1] at hR;subst hR;refine zag Tk (r:=ii 9) rfl rfl rfl trivial rfl rfl ?_;rfl
  have h1:xe∈m.alpha:=by simpa using h1
  rw[if_neg (by simpa using h1)] at hR
  apply zbK (P:=R=if zbm xg m.vars.length 2≠0 then zbm xg m.vars.length 2 else zcX m.vars.length none xu) (s6:={ σ:=[(1,ii i),(2,.own 0 2 0 0),(5,.own 0 5 0 0)],S:=[(5,.box [ii xf,ii xe,ii xt,ii xg.op,ii xg.vl,ii xg.ix,exs xg.args,upds xu]),(2,.box (extC m))]::O,n:=138})
  ·intro J;refine zat ?_;refine zai Tk Tryz.func146 ?_;refine g_go Tk Tryz.func146 ?_;refine zav Tk Tryz.func146 zaz rfl ?_;refine zbS Tk (fun h2=>?_) (fun h2=>?_)
   ·have h2:0<i:=by have:=of_decide_eq_true h2;omega
    have hgp:=hgp h2;have hp0:=hp0 h2;have hw:=zuk h2 hi hmo;generalize m.moves[i-1]=y at hgp hp0;obtain⟨yf,ye,yt,yg,yu⟩:=y;rw[hp0] at hR;simp only[Option.any_some] at hR;refine zas Tk (by rw[hw];omega) ?_;refine zaE Tk (hgp) ?_;refine zbS Tk (fun h3=>?_) (fun h3=>?_)
    ·have h3:xf<yf:=of_decide_eq_true h3;refine zaB Tk Tryz.func146 (by kernel_rfl) ?_;refine gcT Tk Tryz.func146 rfl ?_;rw[if_pos (by simp[h3])] at hR;subst hR;refine zag Tk (r:=ii 5) rfl rfl rfl trivial rfl rfl ?_;rfl
    ·have h3:¬xf<yf:=of_decide_eq_false h3;refine zas Tk (by rw[hw];omega) ?_;refine zaE Tk (hgp) ?_;refine zbS Tk (fun h4=>?_) (fun h4=>?_)
     ·have h4:xf=yf:=beqT h4;refine zas Tk (by rw[hw];omega) ?_;refine zaE Tk (hgp) ?_;refine zaB Tk Tryz.func146 (by kernel_rfl) ?_;refine zae Tk Tryz.func146 rfl (fun h5=>?_) (fun h5=>?_)
      ·have h5:xe<ye:=of_decide_eq_true h5;rw[if_pos (by simp[h4,h5])] at hR;subst hR;refine zag Tk (r:=ii 5) rfl rfl rfl trivial rfl rfl ?_;rfl
      ·have h5:¬xe<ye:=of_decide_eq_false h5;rw[if_neg (by simp;omega)] at hR;refine zat ?_;refine zau (J hR.symm) ⟨rfl,rfl,rfl,trivial⟩ rfl ⟨rfl,rfl,trivial⟩ rfl rfl
     ·have h4:xf≠yf:=beqF h4;refine zaB Tk Tryz.func146 (by kernel_rfl) ?_;refine gcF Tk Tryz.func146 rfl ?_;rw[if_neg (by simp;omega)] at hR;refine zat ?_;refine zau (J hR.symm) ⟨rfl,rfl,rfl,trivial⟩ rfl ⟨rfl,rfl,trivial⟩ rfl rfl
   ·have h2:i=0:=by have:=of_decide_eq_false h2;omega
    refine zaB Tk Tryz.func146 (by kernel_rfl) ?_;refine gcF Tk Tryz.func146 rfl ?_;rw[hpn h2] at hR;rw[if_neg (by simp)] at hR;refine zat ?_;refine zau (J hR.symm) ⟨rfl,rfl,rfl,trivial⟩ rfl ⟨rfl,rfl,trivial⟩ rfl rfl
  ·intro hR;refine zai Tk Tryz.func146 ?_;refine g_go Tk Tryz.func146 ?_;refine zaj Tk Tryz.func146 (zf1 _ xg m.vars.length 2 hx1) rfl rfl rfl rfl rfl ?_;refine zae Tk Tryz.func146 rfl (fun h2=>?_) (fun h2=>?_)
   ·have h2:=bneT h2;rw[if_pos h2] at hR;subst hR;refine zag Tk (r:=ii _) rfl rfl rfl trivial rfl rfl ?_;rfl
   have h2:=bneF h2;rw[if_neg (by simpa using h2)] at hR;refine zah ?_;refine zak (fun j:Nat=>[(2,.own 0 2 0 0),(5,.own 0 5 0 0),(94,upds xu),(95,ii xu.length),(96,ii j)]) (fun _=>[(5,.box [ii xf,ii xe,ii xt,ii xg.op,ii xg.vl,ii xg.ix,exs xg.args,upds xu]),(2,.box (extC m))]) (fun _=>O) 138
    (fun j=>j≤xu.length∧R=zcX m.vars.length ((zem xu j).map (·.v)) (xu.drop j)) (fun j=>xu.length-j) 0 ⟨Nat.zero_le _,hR⟩ ⟨rfl,rfl,rfl,rfl,rfl,trivial⟩ rfl ⟨rfl,rfl,trivial⟩ rfl rfl ?_
   rintro j ⟨hj,hno⟩ ih;clear hR;refine zai Tk Tryz.func146 ?_;refine zae Tk Tryz.func146 rfl (fun h3=>?_) (fun h3=>?_)
   ·have h3:j<xu.length:=by simpa using h3
    have hd:xu.drop j=xu[j]::xu.drop (j+1):=List.drop_eq_getElem_cons h3;have hm:=List.getElem_mem h3;have hgj:(xu.map updI)[(j:Int).toNat]? = some (updI xu[j]):=zan h3;have hpj0:0<j→zem xu j=some (xu[j-1]'(by omega)):=fun h=>zjU h h3;have hgpj:∀h:0<j,(xu.map updI)[(IntKind.i64.wrap ((j:Int)-1)).toNat]? = some (updI (xu[j-1]'(by omega))):=fun h=>by
     rw[zuk h h3 hx2];exact zan (by omega)
    have hpjn:j=0→zem xu j=none:=fun h=>by unfold zem;rw[if_pos h]
    have hpj1:zem xu (j+1)=some xu[j]:=by rw[zem,if_neg (by omega)];simp[h3]
    generalize xu[j]=u at *;have hux:=hx3 u hm;obtain⟨uv,ux⟩:=u;simp only at hux;rw[hd] at hno;simp only[zcX] at hno;refine zad Tk Tryz.func146 (by omega) ?_;refine zap Tk Tryz.func146 (hgj) ?_
    apply zbK (P:=R=if zbm ux m.vars.length 1≠0 then zbm ux m.vars.length 1 else zcX m.vars.length (some uv) (xu.drop (j+1))) (s6:={ σ:=[(2,.own 0 2 0 0),(5,.own 0 5 0 0),(8,.own 0 8 0 0),(94,upds xu),(95,ii xu.length),(96,ii j)],S:=[(8,.box [ii uv,ii ux.op,ii ux.vl,ii ux.ix,exs ux.args]),(5,.box [ii xf,ii xe,ii xt,ii xg.op,ii xg.vl,ii xg.ix,exs xg.args,upds xu]),(2,.box (extC m))]::O,n:=138})
    ·intro J;refine zaK Tk Tryz.func146 rfl (fun h4=>?_) (fun h4=>?_)
     ·have h4:uv<0:=of_decide_eq_true h4;rw[if_pos (.inl h4)] at hno;subst hno;refine gcT Tk Tryz.func146 rfl ?_;refine zag Tk (r:=ii 2) rfl rfl rfl trivial rfl rfl ?_;rfl
     have h4:¬uv<0:=of_decide_eq_false h4;refine zae Tk Tryz.func146 rfl (fun h5=>?_) (fun h5=>?_)
     ·have h5:uv≥m.vars.length:=of_decide_eq_true h5;rw[if_pos (.inr h5)] at hno;subst hno;refine zag Tk (r:=ii 2) rfl rfl rfl trivial rfl rfl ?_;rfl
     have h5:¬uv≥m.vars.length:=of_decide_eq_false h5;rw[if_neg (by omega)] at hno;refine zav Tk Tryz.func146 zaz rfl ?_;refine zbS Tk (fun h6=>?_) (fun h6=>?_)
     ·have h6:0<j:=by have:=of_decide_eq_true h6;omega
      have hgpj:=hgpj h6;have hw:=zuk h6 h3 hx2;rw[hpj0 h6] at hno;generalize xu[j-1]=y at hgpj hno;obtain⟨yv,yx⟩:=y;simp only[Option.map_some,Option.any_some] at hno;refine zas Tk (by rw[hw];omega) ?_;refine zaE Tk (hgpj) ?_;refine zaB Tk Tryz.func146 (by kernel_rfl) ?_;refine zae Tk Tryz.func146 rfl (fun h7=>?_) (fun h7=>?_)
      ·have h7:uv≤yv:=of_decide_eq_true h7;rw[if_pos (decide_eq_true h7)] at hno;subst hno;refine zag Tk (r:=ii 5) rfl rfl rfl trivial rfl rfl ?_;rfl
      ·have h7:¬uv≤yv:=of_decide_eq_false h7;rw[if_neg (by simpa using h7)] at hno;refine zat ?_;refine zau (J hno) ⟨rfl,rfl,rfl,rfl,rfl,rfl,trivial⟩ rfl ⟨rfl,rfl,rfl,trivial⟩ rfl rfl
     ·have h6:j=0:=by have:=of_decide_eq_false h6;omega
      refine zaB Tk Tryz.func146 (by kernel_rfl) ?_;refine gcF Tk Tryz.func146 rfl ?_;rw[hpjn h6] at hno;simp only[Option.map_none,Option.any_none] at hno;rw[if_neg (by simp)] at hno;refine zat ?_;refine zau (J hno) ⟨rfl,rfl,rfl,rfl,rfl,rfl,trivial⟩ rfl ⟨rfl,rfl,rfl,trivial⟩ rfl rfl
    ·intro hno;refine zai Tk Tryz.func146 ?_;refine g_go Tk Tryz.func146 ?_;refine zaj Tk Tryz.func146 (zf1 _ ux m.vars.length 1 hux) rfl rfl rfl rfl rfl ?_;refine zae Tk Tryz.func146 rfl (fun h7=>?_) (fun h7=>?_)
     ·have h7:=bneT h7;rw[if_pos h7] at hno;subst hno;refine zag Tk (r:=ii _) rfl rfl rfl trivial rfl rfl ?_;rfl
     have h7:=bneF h7;rw[if_neg (by simpa using h7)] at hno;refine zah ?_;refine ih (j+1) _ _ ⟨h3,by rw[hpj1];exact hno⟩ (by omega) ⟨rfl,rfl,rfl,rfl,congrArg ii (zaC h3 hx2),trivial⟩ rfl ⟨rfl,rfl,trivial⟩ rfl rfl
   ·have h3:xu.length≤j:=by simpa using h3
    rw[List.drop_eq_nil_of_le h3] at hno;simp only[zcX] at hno;subst hno;refine zag Tk (r:=ii 0) rfl rfl rfl trivial rfl rfl ?_;rfl
theorem zcQ {n:Int}:∀{l:List Int} {p:Option Int},zaO n l p=0→l.Pairwise (· < ·)∧(∀x∈l,0≤x∧x<n)∧∀y,p=some y→∀x∈l,y<x
 |[],p,_=>⟨.nil,by simp,by simp⟩
 |x::r,p,h=>by
  simp only[zaO] at h
  by_cases h1:x<0∨x≥n
  ·rw[if_pos h1] at h;cases h
  rw[if_neg h1] at h
  by_cases h2:p.any (x ≤ ·)=true
  ·rw[if_pos h2] at h;cases h
  rw[if_neg h2] at h;obtain⟨a,b,c⟩:=zcQ h;refine⟨List.pairwise_cons.2 ⟨c x rfl,a⟩,fun y hy=>?_,fun y hp z hz=>?_⟩
  ·rcases List.mem_cons.1 hy with rfl|hy
   ·omega
   ·exact b y hy
  ·subst hp;have hyx:y<x:=by simpa using h2
   rcases List.mem_cons.1 hz with rfl|hz
   ·exact hyx
   ·have:=c x rfl z hz;omega
def zbz (l:List Vr):Int:=if l.length>16 then 3 else zbh l l 0
theorem zkP (O:List Heap) (l:List Vr) (hl:l.length≤zar) (hn:∀v∈l,v.name.size≤zar):zao Tryz.prog 145 [vrs l] O (ii (zbz l)) [] O:=zlW O l hl hn
def zgY (m:Ext):Option Mv→List Mv→Int
 |_,[]=>0
 |prev,x::r=>if zj4 m prev x≠0 then zj4 m prev x else zgY m (some x) r
def chk (m:Ext):Int:=
 if zaO 32 m.alpha none≠0 then zaO 32 m.alpha none else
 if m.locs<1∨m.locs>64∨m.init<0∨m.init≥m.locs then 2 else
 if zaO m.locs m.marked none≠0 then zaO m.locs m.marked none else
 if zbz m.vars≠0 then zbz m.vars else
 if m.moves.length>256 then 3 else zgY m none m.moves
theorem zjk (O:List Heap) (m:Ext) (hok:extOk m):zao Tryz.prog 68 [extD m] O (ii (chk m)) [] O:=by
 have hal:=hok.al;have hma:=hok.ma;have hmo:=hok.mo;generalize hR:chk m=R;unfold chk at hR;refine zaM [] Tk Tryz.func68 rfl Tryz.call68 Tryz.ntmps68 (Nat.le_of_ble_eq_true rfl) fun E=>?_;refine zai Tk Tryz.func68 ?_;refine zaj Tk Tryz.func68 (zik _ m.alpha 32 hal) rfl rfl rfl rfl rfl ?_;refine zae Tk Tryz.func68 rfl (fun h1=>?_) (fun h1=>?_)
 ·have h1:=bneT h1;rw[if_pos h1] at hR;subst hR;refine zag Tk (r:=ii _) rfl rfl rfl trivial rfl rfl ?_;rfl
 have h1:=bneF h1;rw[if_neg (by simpa using h1)] at hR;have hs:=(zcQ h1).1;have bad:(m.locs<1∨m.locs>64∨m.init<0∨m.init≥m.locs)→R=2:=fun h=>by rw[←hR,if_pos h]
 refine zaK Tk Tryz.func68 rfl (fun h2=>?_) (fun h2=>?_)
 ·have:=bad (.inl (of_decide_eq_true h2));subst this
  repeat (first|refine gcT Tk Tryz.func68 rfl ?_|refine gkT Tk Tryz.func68 rfl ?_|refine skT Tk ?_|refine gcF Tk Tryz.func68 rfl ?_|refine gkF Tk Tryz.func68 rfl ?_|refine skF Tk ?_)
  refine zag Tk (r:=ii 2) rfl rfl rfl trivial rfl rfl ?_;rfl
 have h2:¬m.locs<1:=of_decide_eq_false h2;refine zaK Tk Tryz.func68 rfl (fun h3=>?_) (fun h3=>?_)
 ·have:=bad (.inr (.inl (of_decide_eq_true h3)));subst this
  repeat (first|refine gcT Tk Tryz.func68 rfl ?_|refine gkT Tk Tryz.func68 rfl ?_|refine skT Tk ?_|refine gcF Tk Tryz.func68 rfl ?_|refine gkF Tk Tryz.func68 rfl ?_|refine skF Tk ?_)
  refine zag Tk (r:=ii 2) rfl rfl rfl trivial rfl rfl ?_;rfl
 have h3:¬m.locs>64:=of_decide_eq_false h3;refine zaK Tk Tryz.func68 rfl (fun h4=>?_) (fun h4=>?_)
 ·have:=bad (.inr (.inr (.inl (of_decide_eq_true h4))));subst this;refine gcT Tk Tryz.func68 rfl ?_;refine zag Tk (r:=ii 2) rfl rfl rfl trivial rfl rfl ?_;rfl
 have h4:¬m.init<0:=of_decide_eq_false h4;refine zae Tk Tryz.func68 rfl (fun h5=>?_) (fun h5=>?_)
 ·have:=bad (.inr (.inr (.inr (of_decide_eq_true h5))));subst this;refine zag Tk (r:=ii 2) rfl rfl rfl trivial rfl rfl ?_;rfl
 have h5:¬m.init≥m.locs:=of_decide_eq_false h5;rw[if_neg (by omega)] at hR;refine zaj Tk Tryz.func68 (zik _ m.marked m.locs hma) rfl rfl rfl rfl rfl ?_;refine zae Tk Tryz.func68 rfl (fun h6=>?_) (fun h6=>?_)
 ·have h6:=bneT h6;rw[if_pos h6] at hR;subst hR;refine zag Tk (r:=ii _) rfl rfl rfl trivial rfl rfl ?_;rfl
 have h6:=bneF h6;rw[if_neg (by simpa using h6)] at hR;refine zaj Tk Tryz.func68 (zkP _ m.vars hok.va hok.na) rfl rfl rfl rfl rfl ?_;refine zae Tk Tryz.func68 rfl (fun h7=>?_) (fun h7=>?_)
 ·have h7:=bneT h7;rw[if_pos h7] at hR;subst hR;refine zag Tk (r:=ii _) rfl rfl rfl trivial rfl rfl ?_;rfl
 have h7:=bneF h7;rw[if_neg (by simpa using h7)] at hR;refine zae Tk Tryz.func68 rfl (fun h8=>?_) (fun h8=>?_)
 ·have h8:m.moves.length>256:=by have:=of_decide_eq_true h8;omega
  rw[if_pos h8] at hR;subst hR;refine zag Tk (r:=ii _) rfl rfl rfl trivial rfl rfl ?_;rfl
 have h8:¬m.moves.length>256:=by have:=of_decide_eq_false h8;omega
 rw[if_neg h8] at hR;refine zah ?_;refine zak (fun j:Nat=>[(1,.own 0 1 0 0),(54,ii m.moves.length),(55,ii j)]) (fun _=>[(1,.box (extC m))]) (fun _=>O) 65
  (fun j=>j≤m.moves.length∧R=zgY m (zem m.moves j) (m.moves.drop j)) (fun j=>m.moves.length-j) 0 ⟨Nat.zero_le _,hR.symm⟩ ⟨rfl,rfl,rfl,trivial⟩ rfl ⟨rfl,trivial⟩ rfl rfl ?_
 rintro j ⟨hj,hno⟩ ih;clear hR bad;refine zai Tk Tryz.func68 ?_;refine zae Tk Tryz.func68 rfl (fun h9=>?_) (fun h9=>?_)
 ·have h9:j<m.moves.length:=by simpa using h9
  have hd:m.moves.drop j=m.moves[j]::m.moves.drop (j+1):=List.drop_eq_getElem_cons h9;have hpj1:zem m.moves (j+1)=some m.moves[j]:=by rw[zem,if_neg (by omega)];simp[h9]
  rw[hd] at hno;simp only[zgY] at hno;refine zaj Tk Tryz.func68 (zlX _ m j h9 hs hok) rfl rfl rfl rfl rfl ?_;refine zae Tk Tryz.func68 rfl (fun h10=>?_) (fun h10=>?_)
  ·have h10:=bneT h10;rw[if_pos h10] at hno;subst hno;refine zag Tk (r:=ii _) rfl rfl rfl trivial rfl rfl ?_;rfl
  have h10:=bneF h10;rw[if_neg (by simpa using h10)] at hno;refine zah ?_;refine ih (j+1) _ _ ⟨h9,by rw[hpj1];exact hno⟩ (by omega) ⟨rfl,rfl,congrArg ii (zaC h9 hmo),trivial⟩ rfl ⟨rfl,trivial⟩ rfl rfl
 ·have h9:m.moves.length≤j:=by simpa using h9
  rw[List.drop_eq_nil_of_le h9] at hno;simp only[zgY] at hno;subst hno;refine zag Tk (r:=ii 0) rfl rfl rfl trivial rfl rfl ?_;rfl
end Go.AI
namespace Go.AI
open Go.Proofs
set_option maxRecDepth 20000
set_option maxHeartbeats 400000
def zdJ (m:Ext):Sta:=⟨m.init,m.vars.map (·.init)⟩
theorem zwH (O:List Heap) (m:Ext) (hv:m.vars.length≤16):zao Tryz.prog 70 [extD m] O (staD (zdJ m)) [] O:=by
 refine zaa Tk Tryz.func70 rfl Tryz.call70 Tryz.ntmps70 (Nat.le_of_ble_eq_true rfl) fun E=>?_;refine zai Tk Tryz.func70 ?_;refine zah ?_;refine zaq (zaL 3 21 3 1 (pre:=[ii m.init]) (post:=[]) rfl rfl rfl) ?_;refine zak (fun i:Nat=>[(2,.own 0 2 0 0),(3,.own 0 3 0 0),(10,vrs m.vars),(11,ii m.vars.length),(12,ii i)]) (fun i=>[(3,.box [ii m.init,.osl 0 21]),(21,zb7 ((m.vars.take i).map (·.init))),(2,.box [ii 0,.i (.v (.slice none 0 0))])]) (fun _=>O) 25
  (fun i=>i≤m.vars.length) (fun i=>m.vars.length-i) 0 (Nat.zero_le _) ⟨rfl,rfl,rfl,rfl,rfl,trivial⟩ rfl ⟨rfl,rfl,rfl,trivial⟩ rfl rfl ?_
 rintro i hi ih;refine zai Tk Tryz.func70 ?_;refine zae Tk Tryz.func70 rfl (fun h1=>?_) (fun h1=>?_)
 ·have h1:i<m.vars.length:=by simpa using h1
  have hl:((m.vars.take i).map (·.init)).length=i:=by simp;omega
  have e:(m.vars.take (i+1)).map (·.init)=(m.vars.take i).map (·.init)++[m.vars[i].init]:=ziw h1;have hg:(m.vars.map vrI)[(i:Int).toNat]? = some (vrI m.vars[i]):=zan h1;generalize m.vars[i]=v at e hg;generalize (m.vars.take i).map (·.init)=l at *;refine zad Tk Tryz.func70 (by omega) ?_;refine zap Tk Tryz.func70 (hg) ?_;refine zad Tk Tryz.func70 (by exact⟨by show (l.length+1)*8≤140737488355328;omega,by show l.length+1≤9223372036854775807;omega⟩) ?_;refine zah ?_;refine ih (i+1) _ _ h1 (by omega) ⟨rfl,rfl,rfl,rfl,congrArg ii (zaC (n:=16) (by omega) (by decide)),trivial⟩ rfl ⟨rfl,by rw[e];exact congrArg some (zcM l v.init),rfl,trivial⟩ rfl rfl
 ·have h1:m.vars.length≤i:=by simpa using h1
  rw[List.take_of_length_le h1];refine za4 (zam 21 rfl rfl) ?_;refine za4 (zaQ rfl) ?_;refine zag Tk (r:=staD (zdJ m)) rfl rfl rfl trivial rfl rfl ?_;rfl
abbrev zyD (l:List Mv):Option Nat→D
 |none=>.i (.v (.pointer none))
 |some k=>.i (.ptr 8 (l.map mvI) k 0)
def chs (s:Sta) (ev:Int):List Mv→Nat→Option Nat→Bool→Option Nat×Int
 |[],_,out,two=>if two then (none,18) else (out,0)
 |x::r,i,out,two=>
  if x.frm≠s.loc∨x.ev≠ev then chs s ev r (i+1) out two else
  if (zdz x.g s.vals).2≠0 then (none,17) else
  if (zdz x.g s.vals).1=1 then chs s ev r (i+1) (some i) (out.isSome||two) else chs s ev r (i+1) out two
theorem zvM (O:List Heap) (m:Ext) (s:Sta) (ev:Int) (hok:extOk m) (hl:s.vals.length≤zar):zao Tryz.prog 148 [extD m,staD s,ii ev] O (.tup [zyD m.moves (chs s ev m.moves 0 none false).1,ii (chs s ev m.moves 0 none false).2]) [] O:=by
 have hmo:=hok.mo;obtain⟨sl,sv⟩:=s;generalize hR:chs ⟨sl,sv⟩ ev m.moves 0 none false=R;refine zaa Tk Tryz.func148 rfl Tryz.call148 Tryz.ntmps148 (Nat.le_of_ble_eq_true rfl) fun E=>?_;refine zai Tk Tryz.func148 ?_;refine zah ?_;refine zak (fun x:Nat×Option Nat×Bool=>[(2,ii ev),(3,.own 0 3 0 0),(4,.own 0 4 0 0),(8,zyD m.moves x.2.1),(9,bb x.2.2),(16,ii m.moves.length),(17,ii x.1)]) (fun _=>[(4,.box [ii sl,ints sv]),(3,.box (extC m))]) (fun _=>O) 62
  (fun x=>x.1≤m.moves.length∧R=chs ⟨sl,sv⟩ ev (m.moves.drop x.1) x.1 x.2.1 x.2.2) (fun x=>m.moves.length-x.1) (0,none,false) ⟨Nat.zero_le _,hR.symm⟩ ⟨rfl,rfl,rfl,rfl,rfl,rfl,rfl,trivial⟩ rfl ⟨rfl,rfl,trivial⟩ rfl rfl ?_
 rintro ⟨i,out,two⟩ ⟨hi,hno⟩ ih;clear hR;simp only at hi hno;refine zai Tk Tryz.func148 ?_;refine zae Tk Tryz.func148 rfl (fun h1=>?_) (fun h1=>?_)
 ·have h1:i<m.moves.length:=by simpa using h1
  have hd:m.moves.drop i=m.moves[i]::m.moves.drop (i+1):=List.drop_eq_getElem_cons h1;have hg:(m.moves.map mvI)[(i:Int).toNat]? = some (mvI m.moves[i]):=zan h1;have hx:=(hok.mv _ (List.getElem_mem h1)).1;generalize m.moves[i]=x at *;obtain⟨xf,xe,xt,xg,xu⟩:=x;simp only at hx;rw[hd] at hno;simp only[chs] at hno;have hev:=zeS;refine zad Tk Tryz.func148 (by omega) ?_;refine zav Tk Tryz.func148 zaz rfl ?_;refine zaE Tk (hg) ?_;refine zbS Tk (fun h2=>?_) (fun h2=>?_)
  ·have h2:xf≠sl:=bneT h2;rw[if_pos (.inl h2)] at hno;refine zaB Tk Tryz.func148 (by kernel_rfl) ?_;refine gcT Tk Tryz.func148 rfl ?_;refine zah ?_;refine ih (i+1,out,two) _ _ ⟨h1,hno⟩ (by simp only;omega) ⟨rfl,rfl,rfl,rfl,rfl,rfl,congrArg ii (zaC h1 hmo),trivial⟩ rfl ⟨rfl,rfl,trivial⟩ (by cases out<;>rfl) rfl
  have h2:xf=sl:=bneF h2;refine zaE Tk (hg) ?_;refine zaB Tk Tryz.func148 (by kernel_rfl) ?_;refine zae Tk Tryz.func148 rfl (fun h3=>?_) (fun h3=>?_)
  ·have h3:xe≠ev:=bneT h3;rw[if_pos (.inr h3)] at hno;refine zah ?_;refine ih (i+1,out,two) _ _ ⟨h1,hno⟩ (by simp only;omega) ⟨rfl,rfl,rfl,rfl,rfl,rfl,congrArg ii (zaC h1 hmo),trivial⟩ rfl ⟨rfl,rfl,trivial⟩ (by cases out<;>rfl) rfl
  have h3:xe=ev:=bneF h3;rw[if_neg (by simp[h2,h3])] at hno;refine zav Tk Tryz.func148 zaz rfl ?_;refine zaE Tk (hg) ?_;refine zaJ Tk (fun _=>zeS _ xg sv hx hl) rfl rfl rfl ?_;refine zaB Tk Tryz.func148 (by kernel_rfl) ?_;refine zae Tk Tryz.func148 rfl (fun h4=>?_) (fun h4=>?_)
  ·have h4:=bneT h4;rw[if_pos h4] at hno;subst hno;refine zag Tk (r:=.tup [.i (.v (.pointer none)),ii 17]) rfl rfl rfl trivial rfl rfl ?_;rfl
  have h4:=bneF h4;rw[if_neg (by simpa using h4)] at hno;refine zae Tk Tryz.func148 rfl (fun h5=>?_) (fun h5=>?_)
  ·have h5:=beqT h5;rw[if_pos h5] at hno;have hlt:=h1
   cases out with
   |none=>
    refine gkF Tk Tryz.func148 rfl ?_;refine zah ?_;refine ih (i+1,some i,two) _ _ ⟨hlt,hno⟩ (by simp only;omega) ⟨rfl,rfl,rfl,rfl,rfl,rfl,congrArg ii (zaC hlt hmo),trivial⟩ rfl ⟨rfl,rfl,trivial⟩ rfl rfl
   |some k=>
    refine gkT Tk Tryz.func148 rfl ?_;refine zah ?_;refine ih (i+1,some i,true) _ _ ⟨hlt,hno⟩ (by simp only;omega) ⟨rfl,rfl,rfl,rfl,rfl,rfl,congrArg ii (zaC hlt hmo),trivial⟩ rfl ⟨rfl,rfl,trivial⟩ rfl rfl
  ·have h5:=beqF h5;rw[if_neg h5] at hno;refine zah ?_;refine ih (i+1,out,two) _ _ ⟨h1,hno⟩ (by simp only;omega) ⟨rfl,rfl,rfl,rfl,rfl,rfl,congrArg ii (zaC h1 hmo),trivial⟩ rfl ⟨rfl,rfl,trivial⟩ (by cases out<;>rfl) rfl
 ·have h1:m.moves.length≤i:=by simpa using h1
  rw[List.drop_eq_nil_of_le h1] at hno;simp only[chs] at hno;refine zae Tk Tryz.func148 rfl (fun h2=>?_) (fun h2=>?_)
  ·rw[if_pos h2] at hno;subst hno;refine zag Tk (r:=.tup [.i (.v (.pointer none)),ii 18]) rfl rfl rfl trivial rfl rfl ?_;rfl
  ·have h2:two=false:=h2;rw[if_neg (by rw[h2];simp)] at hno;subst hno
   cases out with
   |none=>
    refine zag Tk (r:=.tup [.i (.v (.pointer none)),ii 0]) rfl rfl rfl trivial rfl rfl ?_;rfl
   |some k=>
    refine zag Tk (r:=.tup [.i (.ptr 8 (m.moves.map mvI) k 0),ii 0]) rfl rfl rfl trivial rfl rfl ?_;rfl
end Go.AI
