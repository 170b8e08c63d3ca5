/- The layer of abstract runs, part 27. -/
import Derived.Test.YtnojpbbaohoadaaGreatDoorElkZ
set_option linter.unusedSimpArgs false
set_option linter.unusedVariables false
set_option linter.all false
set_option maxHeartbeats 4000000
namespace Go.AI
open Go.Proofs
set_option maxRecDepth 20000
abbrev sD (s:ByteArray):D:=.i (strI s)
abbrev ssD (l:List ByteArray):D:=.i (zhB l)
abbrev bbI (b:Bool):D:=.i (bI b)
abbrev evtD (x:Evt):D:=.agg [sD x.name,bbI x.c,bbI x.o,bbI x.f,ii x.fault]
abbrev tplC (x:Tpl):List D:=[sD x.name,ssD x.locs,ssD x.evs,ints x.mach.alpha,ii x.mach.locs,ii x.mach.init,ints x.mach.marked,vrs x.mach.vars,.i (.sl 8 x.mach.moves.length (x.mach.moves.map mvI))]
abbrev tplD (x:Tpl):D:=.agg (tplC x)
abbrev insC (x:Ins):List D:=[sD x.name,sD x.tpl,ssD x.evs]
abbrev insD (x:Ins):D:=.agg (insC x)
abbrev nlcD (x:NLc):D:=.agg [sD x.1,sD x.2]
abbrev ntmD (x:NTm):D:=.agg [sD x.1,ii x.2]
abbrev zr0 (l:List NLc):I:=.sl 2 l.length (l.map nlcI)
abbrev zxf (l:List NTm):I:=.sl 2 l.length (l.map ntmI)
abbrev nexC (x:NEx):List D:=[sD x.name,.i (zr0 x.locals)]
abbrev nexD (x:NEx):D:=.agg (nexC x)
abbrev ncnC (x:NCn):List D:=[sD x.name,.i (zxf x.terms),ii x.bound]
abbrev ncnD (x:NCn):D:=.agg (ncnC x)
theorem zfX {α:Type} {p:α→Bool}:∀(l:List α) (i:Nat),(l.find? p=none∧zaw p l i = -1)∨∃(k:Nat) (e:α),l[k]? = some e∧l.find? p=some e∧zaw p l i=((i+k:Nat):Int)
 |[],i=>.inl ⟨rfl,rfl⟩
 |x::r,i=>by
  cases h:p x with
  |true=>exact .inr ⟨0,x,rfl,by simp[h],by simp[zaw,h]⟩
  |false=>
   rcases zfX r (i+1) with ⟨h1,h2⟩|⟨k,e,h1,h2,h3⟩
   ·exact .inl ⟨by rw[List.find?_cons,h];exact h1,by simp only[zaw,h];rw[if_neg (by simp)];exact h2⟩
   ·refine .inr ⟨k+1,e,by simpa using h1,by rw[List.find?_cons,h];exact h2,?_⟩;simp only[zaw,h];rw[if_neg (by simp),h3];congr 1;omega
theorem zb3 {α β:Type} (p:β→Bool) (f:α→β):∀(l:List α) (i:Nat),zaw p (l.map f) i=zaw (fun x=>p (f x)) l i
 |[],_=>rfl
 |x::r,i=>by
  simp only[List.map_cons,zaw,zb3 p f r]
theorem zvi (O:List Heap) (l:List Evt) (f d nm:Nat) (p:Evt→Bool) (hl:l.length≤zar) (hp:∀x∈l,zao Tryz.prog f [evtD x,.own (d+1) nm 0 0] ([]::O) (bb (p x)) [] ([]::O)) :
  zao Tryz.prog 104 [.i (.sl 5 l.length (l.map evtI)),.fn (.func f) [] [.own d nm 0 0]] O (ii (zaw p l 0)) [] O:=by
 generalize hR:zaw p l 0=R;refine zaa Tk Tryz.func104 rfl Tryz.call104 Tryz.ntmps104 (Nat.le_of_ble_eq_true rfl) fun E=>?_;refine zai Tk Tryz.func104 ?_;refine zah ?_;refine zak (fun i:Nat=>[(0,.i (.sl 5 l.length (l.map evtI))),(1,.fn (.func f) [] [.own (d+1) nm 0 0]),(6,.i (.sl 5 l.length (l.map evtI))),(7,ii l.length),(8,ii i)]) (fun _=>[]) (fun _=>O) 19
  (fun i=>i≤l.length∧zaw p (l.drop i) i=R) (fun i=>l.length-i) 0 ⟨Nat.zero_le _,hR⟩ ⟨rfl,rfl,rfl,rfl,rfl,trivial⟩ rfl trivial rfl rfl ?_
 rintro i ⟨hi,hno⟩ ih;clear hR;refine zai Tk Tryz.func104 ?_;refine zae Tk Tryz.func104 rfl (fun g1=>?_) (fun g1=>?_)
 ·have h1:i<l.length:=by simpa using g1
  have gs:(l.map evtI)[(i:Int).toNat]? = some (evtI l[i]):=zan h1;have hps:=hp l[i] (List.getElem_mem h1);have hd:l.drop i=l[i]::l.drop (i+1):=List.drop_eq_getElem_cons h1;rw[hd] at hno;simp only[zaw] at hno;clear hd;generalize l[i]=s at *;refine zad Tk Tryz.func104 (by exact⟨by omega,by show (i:Int)<(l.length:Int);omega⟩) ?_;refine zap Tk Tryz.func104 (gs) ?_;refine zaj Tk Tryz.func104 (hps) rfl rfl rfl rfl rfl ?_;refine zae Tk Tryz.func104 rfl (fun g2=>?_) (fun g2=>?_)
  ·rw[if_pos g2] at hno;subst hno;refine zag Tk (r:=ii (i:Int)) rfl rfl rfl trivial rfl rfl ?_;rfl
  ·have g2:p s=false:=g2;rw[if_neg (by rw[g2];decide)] at hno;refine zah ?_;exact ih (i+1) _ _ ⟨h1,hno⟩ (by omega) ⟨rfl,rfl,rfl,rfl,congrArg ii (zaC h1 hl),trivial⟩ rfl trivial rfl rfl
 ·have h1:l.length≤i:=by simpa using g1
  rw[List.drop_eq_nil_of_le h1] at hno;have hno:(-1:Int)=R:=hno;subst hno;refine zag Tk (r:=ii (-1)) rfl rfl rfl trivial rfl rfl ?_;rfl
theorem zvh (O:List Heap) (l:List Tpl) (f d nm:Nat) (p:Tpl→Bool) (hl:l.length≤zar) (hp:∀x∈l,zao Tryz.prog f [tplD x,.own (d+1) nm 0 0] ([]::O) (bb (p x)) [] ([]::O)) :
  zao Tryz.prog 106 [.i (.sl 9 l.length (l.map tplI)),.fn (.func f) [] [.own d nm 0 0]] O (ii (zaw p l 0)) [] O:=by
 generalize hR:zaw p l 0=R;refine zaa Tk Tryz.func106 rfl Tryz.call106 Tryz.ntmps106 (Nat.le_of_ble_eq_true rfl) fun E=>?_;refine zai Tk Tryz.func106 ?_;refine zah ?_;refine zak (fun i:Nat=>[(0,.i (.sl 9 l.length (l.map tplI))),(1,.fn (.func f) [] [.own (d+1) nm 0 0]),(6,.i (.sl 9 l.length (l.map tplI))),(7,ii l.length),(8,ii i)]) (fun _=>[]) (fun _=>O) 19
  (fun i=>i≤l.length∧zaw p (l.drop i) i=R) (fun i=>l.length-i) 0 ⟨Nat.zero_le _,hR⟩ ⟨rfl,rfl,rfl,rfl,rfl,trivial⟩ rfl trivial rfl rfl ?_
 rintro i ⟨hi,hno⟩ ih;clear hR;refine zai Tk Tryz.func106 ?_;refine zae Tk Tryz.func106 rfl (fun g1=>?_) (fun g1=>?_)
 ·have h1:i<l.length:=by simpa using g1
  have gs:(l.map tplI)[(i:Int).toNat]? = some (tplI l[i]):=zan h1;have hps:=hp l[i] (List.getElem_mem h1);have hd:l.drop i=l[i]::l.drop (i+1):=List.drop_eq_getElem_cons h1;rw[hd] at hno;simp only[zaw] at hno;clear hd;generalize l[i]=s at *;refine zad Tk Tryz.func106 (by exact⟨by omega,by show (i:Int)<(l.length:Int);omega⟩) ?_;refine zap Tk Tryz.func106 (gs) ?_;refine zaj Tk Tryz.func106 (hps) rfl rfl rfl rfl rfl ?_;refine zae Tk Tryz.func106 rfl (fun g2=>?_) (fun g2=>?_)
  ·rw[if_pos g2] at hno;subst hno;refine zag Tk (r:=ii (i:Int)) rfl rfl rfl trivial rfl rfl ?_;rfl
  ·have g2:p s=false:=g2;rw[if_neg (by rw[g2];decide)] at hno;refine zah ?_;exact ih (i+1) _ _ ⟨h1,hno⟩ (by omega) ⟨rfl,rfl,rfl,rfl,congrArg ii (zaC h1 hl),trivial⟩ rfl trivial rfl rfl
 ·have h1:l.length≤i:=by simpa using g1
  rw[List.drop_eq_nil_of_le h1] at hno;have hno:(-1:Int)=R:=hno;subst hno;refine zag Tk (r:=ii (-1)) rfl rfl rfl trivial rfl rfl ?_;rfl
theorem znN (O:List Heap) (l:List Ins) (f d nm:Nat) (p:Ins→Bool) (hl:l.length≤zar) (hp:∀x∈l,zao Tryz.prog f [insD x,.own (d+1) nm 0 0] ([]::O) (bb (p x)) [] ([]::O)) :
  zao Tryz.prog 108 [.i (.sl 3 l.length (l.map insI)),.fn (.func f) [] [.own d nm 0 0]] O (ii (zaw p l 0)) [] O:=by
 generalize hR:zaw p l 0=R;refine zaa Tk Tryz.func108 rfl Tryz.call108 Tryz.ntmps108 (Nat.le_of_ble_eq_true rfl) fun E=>?_;refine zai Tk Tryz.func108 ?_;refine zah ?_;refine zak (fun i:Nat=>[(0,.i (.sl 3 l.length (l.map insI))),(1,.fn (.func f) [] [.own (d+1) nm 0 0]),(6,.i (.sl 3 l.length (l.map insI))),(7,ii l.length),(8,ii i)]) (fun _=>[]) (fun _=>O) 19
  (fun i=>i≤l.length∧zaw p (l.drop i) i=R) (fun i=>l.length-i) 0 ⟨Nat.zero_le _,hR⟩ ⟨rfl,rfl,rfl,rfl,rfl,trivial⟩ rfl trivial rfl rfl ?_
 rintro i ⟨hi,hno⟩ ih;clear hR;refine zai Tk Tryz.func108 ?_;refine zae Tk Tryz.func108 rfl (fun g1=>?_) (fun g1=>?_)
 ·have h1:i<l.length:=by simpa using g1
  have gs:(l.map insI)[(i:Int).toNat]? = some (insI l[i]):=zan h1;have hps:=hp l[i] (List.getElem_mem h1);have hd:l.drop i=l[i]::l.drop (i+1):=List.drop_eq_getElem_cons h1;rw[hd] at hno;simp only[zaw] at hno;clear hd;generalize l[i]=s at *;refine zad Tk Tryz.func108 (by exact⟨by omega,by show (i:Int)<(l.length:Int);omega⟩) ?_;refine zap Tk Tryz.func108 (gs) ?_;refine zaj Tk Tryz.func108 (hps) rfl rfl rfl rfl rfl ?_;refine zae Tk Tryz.func108 rfl (fun g2=>?_) (fun g2=>?_)
  ·rw[if_pos g2] at hno;subst hno;refine zag Tk (r:=ii (i:Int)) rfl rfl rfl trivial rfl rfl ?_;rfl
  ·have g2:p s=false:=g2;rw[if_neg (by rw[g2];decide)] at hno;refine zah ?_;exact ih (i+1) _ _ ⟨h1,hno⟩ (by omega) ⟨rfl,rfl,rfl,rfl,congrArg ii (zaC h1 hl),trivial⟩ rfl trivial rfl rfl
 ·have h1:l.length≤i:=by simpa using g1
  rw[List.drop_eq_nil_of_le h1] at hno;have hno:(-1:Int)=R:=hno;subst hno;refine zag Tk (r:=ii (-1)) rfl rfl rfl trivial rfl rfl ?_;rfl
theorem zvg (O:List Heap) (l:List NEx) (f d nm:Nat) (p:NEx→Bool) (hl:l.length≤zar) (hp:∀x∈l,zao Tryz.prog f [nexD x,.own (d+1) nm 0 0] ([]::O) (bb (p x)) [] ([]::O)) :
  zao Tryz.prog 111 [.i (.sl 2 l.length (l.map nexI)),.fn (.func f) [] [.own d nm 0 0]] O (ii (zaw p l 0)) [] O:=by
 generalize hR:zaw p l 0=R;refine zaa Tk Tryz.func111 rfl Tryz.call111 Tryz.ntmps111 (Nat.le_of_ble_eq_true rfl) fun E=>?_;refine zai Tk Tryz.func111 ?_;refine zah ?_;refine zak (fun i:Nat=>[(0,.i (.sl 2 l.length (l.map nexI))),(1,.fn (.func f) [] [.own (d+1) nm 0 0]),(6,.i (.sl 2 l.length (l.map nexI))),(7,ii l.length),(8,ii i)]) (fun _=>[]) (fun _=>O) 19
  (fun i=>i≤l.length∧zaw p (l.drop i) i=R) (fun i=>l.length-i) 0 ⟨Nat.zero_le _,hR⟩ ⟨rfl,rfl,rfl,rfl,rfl,trivial⟩ rfl trivial rfl rfl ?_
 rintro i ⟨hi,hno⟩ ih;clear hR;refine zai Tk Tryz.func111 ?_;refine zae Tk Tryz.func111 rfl (fun g1=>?_) (fun g1=>?_)
 ·have h1:i<l.length:=by simpa using g1
  have gs:(l.map nexI)[(i:Int).toNat]? = some (nexI l[i]):=zan h1;have hps:=hp l[i] (List.getElem_mem h1);have hd:l.drop i=l[i]::l.drop (i+1):=List.drop_eq_getElem_cons h1;rw[hd] at hno;simp only[zaw] at hno;clear hd;generalize l[i]=s at *;refine zad Tk Tryz.func111 (by exact⟨by omega,by show (i:Int)<(l.length:Int);omega⟩) ?_;refine zap Tk Tryz.func111 (gs) ?_;refine zaj Tk Tryz.func111 (hps) rfl rfl rfl rfl rfl ?_;refine zae Tk Tryz.func111 rfl (fun g2=>?_) (fun g2=>?_)
  ·rw[if_pos g2] at hno;subst hno;refine zag Tk (r:=ii (i:Int)) rfl rfl rfl trivial rfl rfl ?_;rfl
  ·have g2:p s=false:=g2;rw[if_neg (by rw[g2];decide)] at hno;refine zah ?_;exact ih (i+1) _ _ ⟨h1,hno⟩ (by omega) ⟨rfl,rfl,rfl,rfl,congrArg ii (zaC h1 hl),trivial⟩ rfl trivial rfl rfl
 ·have h1:l.length≤i:=by simpa using g1
  rw[List.drop_eq_nil_of_le h1] at hno;have hno:(-1:Int)=R:=hno;subst hno;refine zag Tk (r:=ii (-1)) rfl rfl rfl trivial rfl rfl ?_;rfl
theorem zvf (O:List Heap) (l:List NCn) (f d nm:Nat) (p:NCn→Bool) (hl:l.length≤zar) (hp:∀x∈l,zao Tryz.prog f [ncnD x,.own (d+1) nm 0 0] ([]::O) (bb (p x)) [] ([]::O)) :
  zao Tryz.prog 113 [.i (.sl 3 l.length (l.map ncnI)),.fn (.func f) [] [.own d nm 0 0]] O (ii (zaw p l 0)) [] O:=by
 generalize hR:zaw p l 0=R;refine zaa Tk Tryz.func113 rfl Tryz.call113 Tryz.ntmps113 (Nat.le_of_ble_eq_true rfl) fun E=>?_;refine zai Tk Tryz.func113 ?_;refine zah ?_;refine zak (fun i:Nat=>[(0,.i (.sl 3 l.length (l.map ncnI))),(1,.fn (.func f) [] [.own (d+1) nm 0 0]),(6,.i (.sl 3 l.length (l.map ncnI))),(7,ii l.length),(8,ii i)]) (fun _=>[]) (fun _=>O) 19
  (fun i=>i≤l.length∧zaw p (l.drop i) i=R) (fun i=>l.length-i) 0 ⟨Nat.zero_le _,hR⟩ ⟨rfl,rfl,rfl,rfl,rfl,trivial⟩ rfl trivial rfl rfl ?_
 rintro i ⟨hi,hno⟩ ih;clear hR;refine zai Tk Tryz.func113 ?_;refine zae Tk Tryz.func113 rfl (fun g1=>?_) (fun g1=>?_)
 ·have h1:i<l.length:=by simpa using g1
  have gs:(l.map ncnI)[(i:Int).toNat]? = some (ncnI l[i]):=zan h1;have hps:=hp l[i] (List.getElem_mem h1);have hd:l.drop i=l[i]::l.drop (i+1):=List.drop_eq_getElem_cons h1;rw[hd] at hno;simp only[zaw] at hno;clear hd;generalize l[i]=s at *;refine zad Tk Tryz.func113 (by exact⟨by omega,by show (i:Int)<(l.length:Int);omega⟩) ?_;refine zap Tk Tryz.func113 (gs) ?_;refine zaj Tk Tryz.func113 (hps) rfl rfl rfl rfl rfl ?_;refine zae Tk Tryz.func113 rfl (fun g2=>?_) (fun g2=>?_)
  ·rw[if_pos g2] at hno;subst hno;refine zag Tk (r:=ii (i:Int)) rfl rfl rfl trivial rfl rfl ?_;rfl
  ·have g2:p s=false:=g2;rw[if_neg (by rw[g2];decide)] at hno;refine zah ?_;exact ih (i+1) _ _ ⟨h1,hno⟩ (by omega) ⟨rfl,rfl,rfl,rfl,congrArg ii (zaC h1 hl),trivial⟩ rfl trivial rfl rfl
 ·have h1:l.length≤i:=by simpa using g1
  rw[List.drop_eq_nil_of_le h1] at hno;have hno:(-1:Int)=R:=hno;subst hno;refine zag Tk (r:=ii (-1)) rfl rfl rfl trivial rfl rfl ?_;rfl
theorem zvc (O:List Heap) (l:List NLc) (f d nm:Nat) (p:NLc→Bool) (hl:l.length≤zar) (hp:∀x∈l,zao Tryz.prog f [nlcD x,.own (d+1) nm 0 0] ([]::O) (bb (p x)) [] ([]::O)) :
  zao Tryz.prog 224 [.i (.sl 2 l.length (l.map nlcI)),.fn (.func f) [] [.own d nm 0 0]] O (ii (zaw p l 0)) [] O:=by
 generalize hR:zaw p l 0=R;refine zaa Tk Tryz.func224 rfl Tryz.call224 Tryz.ntmps224 (Nat.le_of_ble_eq_true rfl) fun E=>?_;refine zai Tk Tryz.func224 ?_;refine zah ?_;refine zak (fun i:Nat=>[(0,.i (.sl 2 l.length (l.map nlcI))),(1,.fn (.func f) [] [.own (d+1) nm 0 0]),(6,.i (.sl 2 l.length (l.map nlcI))),(7,ii l.length),(8,ii i)]) (fun _=>[]) (fun _=>O) 19
  (fun i=>i≤l.length∧zaw p (l.drop i) i=R) (fun i=>l.length-i) 0 ⟨Nat.zero_le _,hR⟩ ⟨rfl,rfl,rfl,rfl,rfl,trivial⟩ rfl trivial rfl rfl ?_
 rintro i ⟨hi,hno⟩ ih;clear hR;refine zai Tk Tryz.func224 ?_;refine zae Tk Tryz.func224 rfl (fun g1=>?_) (fun g1=>?_)
 ·have h1:i<l.length:=by simpa using g1
  have gs:(l.map nlcI)[(i:Int).toNat]? = some (nlcI l[i]):=zan h1;have hps:=hp l[i] (List.getElem_mem h1);have hd:l.drop i=l[i]::l.drop (i+1):=List.drop_eq_getElem_cons h1;rw[hd] at hno;simp only[zaw] at hno;clear hd;generalize l[i]=s at *;refine zad Tk Tryz.func224 (by exact⟨by omega,by show (i:Int)<(l.length:Int);omega⟩) ?_;refine zap Tk Tryz.func224 (gs) ?_;refine zaj Tk Tryz.func224 (hps) rfl rfl rfl rfl rfl ?_;refine zae Tk Tryz.func224 rfl (fun g2=>?_) (fun g2=>?_)
  ·rw[if_pos g2] at hno;subst hno;refine zag Tk (r:=ii (i:Int)) rfl rfl rfl trivial rfl rfl ?_;rfl
  ·have g2:p s=false:=g2;rw[if_neg (by rw[g2];decide)] at hno;refine zah ?_;exact ih (i+1) _ _ ⟨h1,hno⟩ (by omega) ⟨rfl,rfl,rfl,rfl,congrArg ii (zaC h1 hl),trivial⟩ rfl trivial rfl rfl
 ·have h1:l.length≤i:=by simpa using g1
  rw[List.drop_eq_nil_of_le h1] at hno;have hno:(-1:Int)=R:=hno;subst hno;refine zag Tk (r:=ii (-1)) rfl rfl rfl trivial rfl rfl ?_;rfl
theorem zve (O:List Heap) (l:List ByteArray) (f d nm:Nat) (p:ByteArray→Bool) (hl:l.length≤zar) (hp:∀x∈l,zao Tryz.prog f [sD x,.own (d+1) nm 0 0] ([]::O) (bb (p x)) [] ([]::O)) :
  zao Tryz.prog 163 [.i (.sl 1 l.length (l.map (fun s=>[strI s]))),.fn (.func f) [] [.own d nm 0 0]] O (ii (zaw p l 0)) [] O:=by
 generalize hR:zaw p l 0=R;refine zaa Tk Tryz.func163 rfl Tryz.call163 Tryz.ntmps163 (Nat.le_of_ble_eq_true rfl) fun E=>?_;refine zai Tk Tryz.func163 ?_;refine zah ?_;refine zak (fun i:Nat=>[(0,.i (.sl 1 l.length (l.map (fun s=>[strI s])))),(1,.fn (.func f) [] [.own (d+1) nm 0 0]),(6,.i (.sl 1 l.length (l.map (fun s=>[strI s])))),(7,ii l.length),(8,ii i)]) (fun _=>[]) (fun _=>O) 19
  (fun i=>i≤l.length∧zaw p (l.drop i) i=R) (fun i=>l.length-i) 0 ⟨Nat.zero_le _,hR⟩ ⟨rfl,rfl,rfl,rfl,rfl,trivial⟩ rfl trivial rfl rfl ?_
 rintro i ⟨hi,hno⟩ ih;clear hR;refine zai Tk Tryz.func163 ?_;refine zae Tk Tryz.func163 rfl (fun g1=>?_) (fun g1=>?_)
 ·have h1:i<l.length:=by simpa using g1
  have gs:(l.map (fun s=>[strI s]))[(i:Int).toNat]? = some ((fun s=>[strI s]) l[i]):=zan h1;have hps:=hp l[i] (List.getElem_mem h1);have hd:l.drop i=l[i]::l.drop (i+1):=List.drop_eq_getElem_cons h1;rw[hd] at hno;simp only[zaw] at hno;clear hd;generalize l[i]=s at *;refine zad Tk Tryz.func163 (by exact⟨by omega,by show (i:Int)<(l.length:Int);omega⟩) ?_;refine zap Tk Tryz.func163 (gs) ?_;refine zaj Tk Tryz.func163 (hps) rfl rfl rfl rfl rfl ?_;refine zae Tk Tryz.func163 rfl (fun g2=>?_) (fun g2=>?_)
  ·rw[if_pos g2] at hno;subst hno;refine zag Tk (r:=ii (i:Int)) rfl rfl rfl trivial rfl rfl ?_;rfl
  ·have g2:p s=false:=g2;rw[if_neg (by rw[g2];decide)] at hno;refine zah ?_;exact ih (i+1) _ _ ⟨h1,hno⟩ (by omega) ⟨rfl,rfl,rfl,rfl,congrArg ii (zaC h1 hl),trivial⟩ rfl trivial rfl rfl
 ·have h1:l.length≤i:=by simpa using g1
  rw[List.drop_eq_nil_of_le h1] at hno;have hno:(-1:Int)=R:=hno;subst hno;refine zag Tk (r:=ii (-1)) rfl rfl rfl trivial rfl rfl ?_;rfl
theorem zvb (O:List Heap) (l:List NTm) (f d nm:Nat) (p:NTm→Bool) (hl:l.length≤zar) (hp:∀x∈l,zao Tryz.prog f [ntmD x,.own (d+1) nm 0 0] ([]::O) (bb (p x)) [] ([]::O)) :
  zao Tryz.prog 225 [.i (.sl 2 l.length (l.map ntmI)),.fn (.func f) [] [.own d nm 0 0]] O (ii (zaw p l 0)) [] O:=by
 generalize hR:zaw p l 0=R;refine zaa Tk Tryz.func225 rfl Tryz.call225 Tryz.ntmps225 (Nat.le_of_ble_eq_true rfl) fun E=>?_;refine zai Tk Tryz.func225 ?_;refine zah ?_;refine zak (fun i:Nat=>[(0,.i (.sl 2 l.length (l.map ntmI))),(1,.fn (.func f) [] [.own (d+1) nm 0 0]),(6,.i (.sl 2 l.length (l.map ntmI))),(7,ii l.length),(8,ii i)]) (fun _=>[]) (fun _=>O) 19
  (fun i=>i≤l.length∧zaw p (l.drop i) i=R) (fun i=>l.length-i) 0 ⟨Nat.zero_le _,hR⟩ ⟨rfl,rfl,rfl,rfl,rfl,trivial⟩ rfl trivial rfl rfl ?_
 rintro i ⟨hi,hno⟩ ih;clear hR;refine zai Tk Tryz.func225 ?_;refine zae Tk Tryz.func225 rfl (fun g1=>?_) (fun g1=>?_)
 ·have h1:i<l.length:=by simpa using g1
  have gs:(l.map ntmI)[(i:Int).toNat]? = some (ntmI l[i]):=zan h1;have hps:=hp l[i] (List.getElem_mem h1);have hd:l.drop i=l[i]::l.drop (i+1):=List.drop_eq_getElem_cons h1;rw[hd] at hno;simp only[zaw] at hno;clear hd;generalize l[i]=s at *;refine zad Tk Tryz.func225 (by exact⟨by omega,by show (i:Int)<(l.length:Int);omega⟩) ?_;refine zap Tk Tryz.func225 (gs) ?_;refine zaj Tk Tryz.func225 (hps) rfl rfl rfl rfl rfl ?_;refine zae Tk Tryz.func225 rfl (fun g2=>?_) (fun g2=>?_)
  ·rw[if_pos g2] at hno;subst hno;refine zag Tk (r:=ii (i:Int)) rfl rfl rfl trivial rfl rfl ?_;rfl
  ·have g2:p s=false:=g2;rw[if_neg (by rw[g2];decide)] at hno;refine zah ?_;exact ih (i+1) _ _ ⟨h1,hno⟩ (by omega) ⟨rfl,rfl,rfl,rfl,congrArg ii (zaC h1 hl),trivial⟩ rfl trivial rfl rfl
 ·have h1:l.length≤i:=by simpa using g1
  rw[List.drop_eq_nil_of_le h1] at hno;have hno:(-1:Int)=R:=hno;subst hno;refine zag Tk (r:=ii (-1)) rfl rfl rfl trivial rfl rfl ?_;rfl
theorem zlR (O:List Heap) (l:List NLc) (f d nm:Nat) (p:NLc→Bool) (hl:l.length≤zar) (hp:∀x∈l,zao Tryz.prog f [nlcD x,.own (d+2) nm 0 0] ([]::[]::O) (bb (p x)) [] ([]::[]::O)) :
  zao Tryz.prog 165 [.i (.sl 2 l.length (l.map nlcI)),.fn (.func f) [] [.own d nm 0 0]] O (bb (l.any p)) [] O:=by
 have h:=fun O hp=>zvc O l f (d+1) nm p hl hp;rw[←zbq p l 0];generalize zaw p l 0=R at *;refine zaa Tk Tryz.func165 rfl Tryz.call165 Tryz.ntmps165 (Nat.le_of_ble_eq_true rfl) fun E=>?_;refine zai Tk Tryz.func165 ?_;refine zaj Tk Tryz.func165 (h _ hp) rfl rfl rfl rfl rfl ?_;refine zag Tk (r:=bb (decide (R≥0))) rfl rfl rfl trivial rfl rfl ?_;rfl
theorem zlQ (O:List Heap) (l:List NTm) (f d nm:Nat) (p:NTm→Bool) (hl:l.length≤zar) (hp:∀x∈l,zao Tryz.prog f [ntmD x,.own (d+2) nm 0 0] ([]::[]::O) (bb (p x)) [] ([]::[]::O)) :
  zao Tryz.prog 168 [.i (.sl 2 l.length (l.map ntmI)),.fn (.func f) [] [.own d nm 0 0]] O (bb (l.any p)) [] O:=by
 have h:=fun O hp=>zvb O l f (d+1) nm p hl hp;rw[←zbq p l 0];generalize zaw p l 0=R at *;refine zaa Tk Tryz.func168 rfl Tryz.call168 Tryz.ntmps168 (Nat.le_of_ble_eq_true rfl) fun E=>?_;refine zai Tk Tryz.func168 ?_;refine zaj Tk Tryz.func168 (h _ hp) rfl rfl rfl rfl rfl ?_;refine zag Tk (r:=bb (decide (R≥0))) rfl rfl rfl trivial rfl rfl ?_;rfl
theorem zlT (O:List Heap) (l:List ByteArray) (f d nm:Nat) (p:ByteArray→Bool) (hl:l.length≤zar) (hp:∀x∈l,zao Tryz.prog f [sD x,.own (d+2) nm 0 0] ([]::[]::O) (bb (p x)) [] ([]::[]::O)) :
  zao Tryz.prog 122 [.i (.sl 1 l.length (l.map (fun s=>[strI s]))),.fn (.func f) [] [.own d nm 0 0]] O (bb (l.any p)) [] O:=by
 have h:=fun O hp=>zve O l f (d+1) nm p hl hp;rw[←zbq p l 0];generalize zaw p l 0=R at *;refine zaa Tk Tryz.func122 rfl Tryz.call122 Tryz.ntmps122 (Nat.le_of_ble_eq_true rfl) fun E=>?_;refine zai Tk Tryz.func122 ?_;refine zaj Tk Tryz.func122 (h _ hp) rfl rfl rfl rfl rfl ?_;refine zag Tk (r:=bb (decide (R≥0))) rfl rfl rfl trivial rfl rfl ?_;rfl
theorem zw1 (O:List Heap) (x:Evt) (s:ByteArray) (d nm:Nat) (ho:zab O d nm=some (.box [sD s])):zao Tryz.prog 105 [evtD x,.own d nm 0 0] O (bb (sB x.name s)) [] O:=by
 rw[←zbg];refine zaa Tk Tryz.func105 rfl Tryz.call105 Tryz.ntmps105 (Nat.le_of_ble_eq_true rfl) fun E=>?_;refine zai Tk Tryz.func105 ?_;refine zbE Tk Tryz.func105 (ho) ?_;refine zag Tk (r:=bb (x.name.toList==s.toList)) rfl rfl rfl trivial rfl rfl ?_;rfl
theorem zw0 (O:List Heap) (x:Tpl) (s:ByteArray) (d nm:Nat) (ho:zab O d nm=some (.box [sD s])):zao Tryz.prog 107 [tplD x,.own d nm 0 0] O (bb (sB x.name s)) [] O:=by
 rw[←zbg];refine zaa Tk Tryz.func107 rfl Tryz.call107 Tryz.ntmps107 (Nat.le_of_ble_eq_true rfl) fun E=>?_;refine zai Tk Tryz.func107 ?_;refine zbE Tk Tryz.func107 (ho) ?_;refine zag Tk (r:=bb (x.name.toList==s.toList)) rfl rfl rfl trivial rfl rfl ?_;rfl
theorem zwZ (O:List Heap) (x:Ins) (s:ByteArray) (d nm:Nat) (ho:zab O d nm=some (.box [sD s])):zao Tryz.prog 109 [insD x,.own d nm 0 0] O (bb (sB x.name s)) [] O:=by
 rw[←zbg];refine zaa Tk Tryz.func109 rfl Tryz.call109 Tryz.ntmps109 (Nat.le_of_ble_eq_true rfl) fun E=>?_;refine zai Tk Tryz.func109 ?_;refine zbE Tk Tryz.func109 (ho) ?_;refine zag Tk (r:=bb (x.name.toList==s.toList)) rfl rfl rfl trivial rfl rfl ?_;rfl
theorem zwY (O:List Heap) (x:Ins) (s:ByteArray) (d nm:Nat) (ho:zab O d nm=some (.box [sD s])):zao Tryz.prog 110 [insD x,.own d nm 0 0] O (bb (sB x.name s)) [] O:=by
 rw[←zbg];refine zaa Tk Tryz.func110 rfl Tryz.call110 Tryz.ntmps110 (Nat.le_of_ble_eq_true rfl) fun E=>?_;refine zai Tk Tryz.func110 ?_;refine zbE Tk Tryz.func110 (ho) ?_;refine zag Tk (r:=bb (x.name.toList==s.toList)) rfl rfl rfl trivial rfl rfl ?_;rfl
theorem zwX (O:List Heap) (x:NEx) (s:ByteArray) (d nm:Nat) (ho:zab O d nm=some (.box [sD s])):zao Tryz.prog 112 [nexD x,.own d nm 0 0] O (bb (sB x.name s)) [] O:=by
 rw[←zbg];refine zaa Tk Tryz.func112 rfl Tryz.call112 Tryz.ntmps112 (Nat.le_of_ble_eq_true rfl) fun E=>?_;refine zai Tk Tryz.func112 ?_;refine zbE Tk Tryz.func112 (ho) ?_;refine zag Tk (r:=bb (x.name.toList==s.toList)) rfl rfl rfl trivial rfl rfl ?_;rfl
theorem zwW (O:List Heap) (x:NCn) (s:ByteArray) (d nm:Nat) (ho:zab O d nm=some (.box [sD s])):zao Tryz.prog 114 [ncnD x,.own d nm 0 0] O (bb (sB x.name s)) [] O:=by
 rw[←zbg];refine zaa Tk Tryz.func114 rfl Tryz.call114 Tryz.ntmps114 (Nat.le_of_ble_eq_true rfl) fun E=>?_;refine zai Tk Tryz.func114 ?_;refine zbE Tk Tryz.func114 (ho) ?_;refine zag Tk (r:=bb (x.name.toList==s.toList)) rfl rfl rfl trivial rfl rfl ?_;rfl
theorem zwV (O:List Heap) (x:NLc) (s:ByteArray) (s2:ByteArray) (d nm:Nat) (ho:zab O d nm=some (.box [sD s,sD s2])):zao Tryz.prog 166 [nlcD x,.own d nm 0 0] O (bb (sB x.1 s)) [] O:=by
 rw[←zbg];refine zaa Tk Tryz.func166 rfl Tryz.call166 Tryz.ntmps166 (Nat.le_of_ble_eq_true rfl) fun E=>?_;refine zai Tk Tryz.func166 ?_;refine zbE Tk Tryz.func166 (ho) ?_;refine zag Tk (r:=bb (x.1.toList==s.toList)) rfl rfl rfl trivial rfl rfl ?_;rfl
theorem zwU (O:List Heap) (x:NTm) (s:ByteArray) (s2:Int) (d nm:Nat) (ho:zab O d nm=some (.box [sD s,ii s2])):zao Tryz.prog 169 [ntmD x,.own d nm 0 0] O (bb (sB x.1 s)) [] O:=by
 rw[←zbg];refine zaa Tk Tryz.func169 rfl Tryz.call169 Tryz.ntmps169 (Nat.le_of_ble_eq_true rfl) fun E=>?_;refine zai Tk Tryz.func169 ?_;refine zbE Tk Tryz.func169 (ho) ?_;refine zag Tk (r:=bb (x.1.toList==s.toList)) rfl rfl rfl trivial rfl rfl ?_;rfl
theorem znM (O:List Heap) (l:List ByteArray) (s:ByteArray) (hl:l.length≤zar):zao Tryz.prog 164 [ssD l,sD s] O (ii (nmIx l s)) [] O:=by
 have e:nmIx l s=zaw (fun x=>s.toList==x.toList) l 0:=by
  unfold nmIx;congr 1;funext x;rw[zbg,zw2]
 rw[e];generalize hR:zaw (fun x=>s.toList==x.toList) l 0=R;refine zaa Tk Tryz.func164 rfl Tryz.call164 Tryz.ntmps164 (Nat.le_of_ble_eq_true rfl) fun E=>?_;refine zai Tk Tryz.func164 ?_;refine zah ?_;refine zak (fun i:Nat=>[(0,ssD l),(1,sD s),(6,ssD l),(7,ii l.length),(8,ii i)]) (fun _=>[]) (fun _=>O) 19
  (fun i=>i≤l.length∧zaw (fun x=>s.toList==x.toList) (l.drop i) i=R) (fun i=>l.length-i) 0 ⟨Nat.zero_le _,hR⟩ ⟨rfl,rfl,rfl,rfl,rfl,trivial⟩ rfl trivial rfl rfl ?_
 rintro i ⟨hi,hno⟩ ih;clear hR;refine zai Tk Tryz.func164 ?_;refine zae Tk Tryz.func164 rfl (fun g1=>?_) (fun g1=>?_)
 ·have h1:i<l.length:=by simpa using g1
  have gs:(l.map fun s=>[strI s])[(i:Int).toNat]? = some [strI l[i]]:=zan (f:=fun s=>[strI s]) h1;have hd:l.drop i=l[i]::l.drop (i+1):=List.drop_eq_getElem_cons h1;rw[hd] at hno;simp only[zaw] at hno;clear hd;generalize l[i]=x at *;refine zad Tk Tryz.func164 (by exact⟨by omega,by show (i:Int)<(l.length:Int);omega⟩) ?_;refine zap Tk Tryz.func164 (gs) ?_;refine zae Tk Tryz.func164 rfl (fun g2=>?_) (fun g2=>?_)
  ·have g2:(s.toList==x.toList)=true:=g2;rw[if_pos g2] at hno;subst hno;refine zag Tk (r:=ii (i:Int)) rfl rfl rfl trivial rfl rfl ?_;rfl
  ·have g2:(s.toList==x.toList)=false:=g2;rw[if_neg (by rw[g2];decide)] at hno;refine zah ?_;exact ih (i+1) _ _ ⟨h1,hno⟩ (by omega) ⟨rfl,rfl,rfl,rfl,congrArg ii (zaC h1 hl),trivial⟩ rfl trivial rfl rfl
 ·have h1:l.length≤i:=by simpa using g1
  rw[List.drop_eq_nil_of_le h1] at hno;have hno:(-1:Int)=R:=hno;subst hno;refine zag Tk (r:=ii (-1)) rfl rfl rfl trivial rfl rfl ?_;rfl
theorem zcp (O:List Heap) (l:List ByteArray) (s:ByteArray) (hl:l.length≤zar):zao Tryz.prog 124 [ssD l,sD s] O (bb (hasB l s)) [] O:=by
 have h:=fun O=>znM O l s hl;have e:hasB l s=decide (nmIx l s≥0):=(zbq (fun x=>sB x s) l 0).symm;rw[e];generalize nmIx l s=R at *;refine zaa Tk Tryz.func124 rfl Tryz.call124 Tryz.ntmps124 (Nat.le_of_ble_eq_true rfl) fun E=>?_;refine zai Tk Tryz.func124 ?_;refine zaj Tk Tryz.func124 (h _) rfl rfl rfl rfl rfl ?_;refine zag Tk (r:=bb (decide (R≥0))) rfl rfl rfl trivial rfl rfl ?_;rfl
theorem zgU {b:Bool} (h:b=false):¬b=true:=by rw[h];decide
theorem zdI {α:Type} (f:α→List I) (es:Nat) {l:List α} {i:Nat} (h:i≤l.length):I.sl es (l.take i).length ((l.take i).map f)=I.sl es i ((l.map f).take i):=by rw[List.length_take,Nat.min_eq_left h,List.map_take]
theorem zxw (O:List Heap) (b:List ByteArray) (s:ByteArray) (hl:b.length≤1000000) (hs:s.size≤zar):zao Tryz.prog 119 [ssD (b++[s])] O (ii (nmE b s)) [] O:=by
 have w1:IntKind.i64.wrap (((b++[s]).length:Int)-1)=(b.length:Int):=by rw[List.length_append,List.length_singleton,w64 (by omega) (by omega)];omega
 have hlen:(b++[s]).length=b.length+1:=by simp
 have gs:((b++[s]).map fun s=>[strI s])[(IntKind.i64.wrap (((b++[s]).length:Int)-1)).toNat]? = some [strI s]:=by rw[w1];simp
 have eT:I.sl 1 (IntKind.i64.wrap (((b++[s]).length:Int)-1)).toNat (((b++[s]).map fun s=>[strI s]).take (IntKind.i64.wrap (((b++[s]).length:Int)-1)).toNat)=zhB b:=by rw[w1];simp[zhB]
 have hn:=fun O=>zdv O s hs;have hc:∀O,zao Tryz.prog 124 [.i (.sl 1 (IntKind.i64.wrap (((b++[s]).length:Int)-1)).toNat (((b++[s]).map fun s=>[strI s]).take (IntKind.i64.wrap (((b++[s]).length:Int)-1)).toNat)),sD s] O (bb (hasB b s)) [] O:=fun O=>by
  rw[eT];exact zcp O b s (by simp only[zar];omega)
 unfold nmE;generalize zaW s=nb at *;generalize hasB b s=hb at *;refine zaa Tk Tryz.func119 rfl Tryz.call119 Tryz.ntmps119 (Nat.le_of_ble_eq_true rfl) fun E=>?_;refine zai Tk Tryz.func119 ?_;refine zad Tk Tryz.func119 (by rw[w1,hlen];omega) ?_;refine zap Tk Tryz.func119 (gs) ?_;refine zaj Tk Tryz.func119 (hn _) rfl rfl rfl rfl rfl ?_;refine zae Tk Tryz.func119 rfl (fun c1=>?_) (fun c1=>?_)
 ·have c1:nb=false:=by simpa using c1
  rw[if_pos c1];refine zag Tk (r:=ii 7) rfl rfl rfl trivial rfl rfl ?_;rfl
 have c1:¬nb=false:=by simpa using c1
 rw[if_neg c1];refine zad Tk Tryz.func119 (by rw[w1,hlen];omega) ?_;refine zaj Tk Tryz.func119 (hc _) rfl rfl rfl rfl rfl ?_;refine zae Tk Tryz.func119 rfl (fun c2=>?_) (fun c2=>?_)
 ·have c2:hb=true:=c2;rw[if_pos c2];refine zag Tk (r:=ii 8) rfl rfl rfl trivial rfl rfl ?_;rfl
 have c2:hb=false:=c2;rw[if_neg (zgU c2)];refine zag Tk (r:=ii 0) rfl rfl rfl trivial rfl rfl ?_;rfl
theorem zny (O:List Heap) (l:List ByteArray) (hl:l.length≤1000000) (hs:∀s∈l,s.size≤zar):zao Tryz.prog 162 [ssD l] O (ii (nmsE [] l)) [] O:=by
 generalize hR:nmsE [] l=R;refine zaa Tk Tryz.func162 rfl Tryz.call162 Tryz.ntmps162 (Nat.le_of_ble_eq_true rfl) fun E=>?_;refine zai Tk Tryz.func162 ?_;refine zah ?_;refine zak (fun i:Nat=>[(0,ssD l),(5,ssD l),(6,ii l.length),(7,ii i)]) (fun _=>[]) (fun _=>O) 23
  (fun i=>i≤l.length∧nmsE (l.take i) (l.drop i)=R) (fun i=>l.length-i) 0 ⟨Nat.zero_le _,hR⟩ ⟨rfl,rfl,rfl,rfl,trivial⟩ rfl trivial rfl rfl ?_
 rintro i ⟨hi,hno⟩ ih;clear hR;refine zai Tk Tryz.func162 ?_;refine zae Tk Tryz.func162 rfl (fun g1=>?_) (fun g1=>?_)
 ·have h1:i<l.length:=by simpa using g1
  have gs:(l.map fun s=>[strI s])[(i:Int).toNat]? = some [strI l[i]]:=zan (f:=fun s=>[strI s]) h1;have ht:l.take (i+1)=l.take i++[l[i]]:=List.take_succ_eq_append_getElem h1;rw[List.drop_eq_getElem_cons h1] at hno;simp only[nmsE,←ht] at hno;have hn:=fun O=>zdv O l[i] (hs _ (List.getElem_mem h1));have hc:∀O,zao Tryz.prog 124 [.i (.sl 1 i ((l.map fun s=>[strI s]).take i)),sD l[i]] O (bb (hasB (l.take i) l[i])) [] O:=fun O=>by
   rw[←zdI (fun s=>[strI s]) 1 hi];exact zcp O (l.take i) l[i] (by rw[List.length_take];simp only[zar];omega)
  unfold nmE at hno;generalize zaW l[i]=nb at *;generalize hasB (l.take i) l[i]=hb at *;generalize l[i]=x at *;refine zad Tk Tryz.func162 (by exact⟨by omega,by show (i:Int)<(l.length:Int);omega⟩) ?_;refine zap Tk Tryz.func162 (gs) ?_;refine zaj Tk Tryz.func162 (hn _) rfl rfl rfl rfl rfl ?_;refine zae Tk Tryz.func162 rfl (fun c1=>?_) (fun c1=>?_)
  ·have c1:nb=false:=by simpa using c1
   rw[if_pos c1] at hno;rw[if_pos (by decide)] at hno;subst hno;refine zag Tk (r:=ii 7) rfl rfl rfl trivial rfl rfl ?_;rfl
  have c1:¬nb=false:=by simpa using c1
  rw[if_neg c1] at hno;refine zad Tk Tryz.func162 (by exact⟨by omega,by show (i:Int)≤(l.length:Int);omega⟩) ?_;refine zaj Tk Tryz.func162 (hc _) rfl rfl rfl rfl rfl ?_;refine zae Tk Tryz.func162 rfl (fun c2=>?_) (fun c2=>?_)
  ·have c2:hb=true:=c2;rw[if_pos c2,if_pos (by decide)] at hno;subst hno;refine zag Tk (r:=ii 8) rfl rfl rfl trivial rfl rfl ?_;rfl
  have c2:hb=false:=c2;rw[if_neg (zgU c2),if_neg (by decide)] at hno;refine zah ?_;exact ih (i+1) _ _ ⟨h1,hno⟩ (by omega) ⟨rfl,rfl,rfl,congrArg ii (zaC (n:=1000001) (by omega) (by decide)),trivial⟩ rfl trivial rfl rfl
 ·have h1:l.length≤i:=by simpa using g1
  rw[List.drop_eq_nil_of_le h1] at hno;have hno:(0:Int)=R:=hno;subst hno;refine zag Tk (r:=ii 0) rfl rfl rfl trivial rfl rfl ?_;rfl
structure tplOk (x:Tpl):Prop where
 nm:x.name.size≤zar
 ll:x.locs.length≤1000000
 ls:∀s∈x.locs,s.size≤zar
 el:x.evs.length≤1000000
 es:∀s∈x.evs,s.size≤zar
 mo:extOk x.mach
theorem ziF {l:List Int} {n:Nat} (hl:l.length=n):l=(List.range n).map (fun k=>((k:Nat):Int))↔∀j (h:j<l.length),l[j]=(j:Int):=by
 constructor
 ·intro e j h;have:l[j]? = ((List.range n).map (fun k=>((k:Nat):Int)))[j]?:=by rw[←e]
  rw[List.getElem?_eq_getElem h,List.getElem?_map,List.getElem?_range (by omega)] at this;simpa using this
 ·intro h
  apply List.ext_getElem
  ·simp[hl]
  ·intro j h1 h2;rw[h j h1];simp
theorem zf9 (O:List Heap) (x:Tpl) (hx:tplOk x):zao Tryz.prog 120 [tplD x] O (ii (tplE x)) [] O:=by
 have h1:=fun O=>zny O x.locs hx.ll hx.ls;have h2:=fun O=>zny O x.evs hx.el hx.es;have h3:=fun O=>zjk O x.mach hx.mo;have hal:=hx.mo.al;have hel:=hx.el;unfold tplE;generalize nmsE [] x.locs=e1 at *;generalize nmsE [] x.evs=e2 at *;generalize chk x.mach=e3 at *;obtain⟨nm,locs,evs,⟨al,lo,ini,mk,vr,mo⟩⟩:=x;simp only at h1 h2 h3 hal hel ⊢;refine zaa Tk Tryz.func120 rfl Tryz.call120 Tryz.ntmps120 (Nat.le_of_ble_eq_true rfl) fun E=>?_;refine zai Tk Tryz.func120 ?_;refine zae Tk Tryz.func120 rfl (fun c1=>?_) (fun c1=>?_)
 ·have c1:(locs.length:Int)≠lo:=bneT c1;rw[if_pos c1];refine zag Tk (r:=ii 4) rfl rfl rfl trivial rfl rfl ?_;rfl
 have c1:¬(locs.length:Int)≠lo:=fun h=>h (bneF c1);rw[if_neg c1];refine zaj Tk Tryz.func120 (h1 _) rfl rfl rfl rfl rfl ?_;refine zae Tk Tryz.func120 rfl (fun c2=>?_) (fun c2=>?_)
 ·have c2:e1≠0:=bneT c2;rw[if_pos c2];refine zag Tk (r:=ii e1) rfl rfl rfl trivial rfl rfl ?_;rfl
 have c2:¬e1≠0:=fun h=>h (bneF c2);rw[if_neg c2];refine zaj Tk Tryz.func120 (h2 _) rfl rfl rfl rfl rfl ?_;refine zae Tk Tryz.func120 rfl (fun c3=>?_) (fun c3=>?_)
 ·have c3:e2≠0:=bneT c3;rw[if_pos c3];refine zag Tk (r:=ii e2) rfl rfl rfl trivial rfl rfl ?_;rfl
 have c3:¬e2≠0:=fun h=>h (bneF c3);rw[if_neg c3];refine zae Tk Tryz.func120 rfl (fun c4=>?_) (fun c4=>?_)
 ·have c4:(al.length:Int)≠(evs.length:Int):=bneT c4;rw[if_pos (by omega)];refine zag Tk (r:=ii 6) rfl rfl rfl trivial rfl rfl ?_;rfl
 have c4:al.length=evs.length:=by have:(al.length:Int)=(evs.length:Int):=bneF c4;omega
 rw[if_neg (by omega)];refine zah ?_;refine zak (fun i:Nat=>[(1,.own 0 1 0 0),(36,ints al),(37,ii al.length),(38,ii i)]) (fun _=>[(1,.box (tplC ⟨nm,locs,evs,⟨al,lo,ini,mk,vr,mo⟩⟩))]) (fun _=>O) 50
  (fun i=>i≤al.length∧∀j (h:j<al.length),j<i→al[j]=(j:Int)) (fun i=>al.length-i) 0 ⟨Nat.zero_le _,fun j _ h=>absurd h (Nat.not_lt_zero _)⟩ ⟨rfl,rfl,rfl,rfl,trivial⟩ rfl ⟨rfl,trivial⟩ rfl rfl ?_
 rintro i ⟨hi,hno⟩ ih;refine zai Tk Tryz.func120 ?_;refine zae Tk Tryz.func120 rfl (fun g1=>?_) (fun g1=>?_)
 ·have g1:i<al.length:=by simpa using g1
  have gx:(al.map fun x=>[vi x])[(i:Int).toNat]? = some [vi al[i]]:=zan (f:=fun x=>[vi x]) g1;refine zad Tk Tryz.func120 (by exact⟨by omega,by show (i:Int)<(al.length:Int);omega⟩) ?_;refine zap Tk Tryz.func120 (gx) ?_;refine zae Tk Tryz.func120 rfl (fun c5=>?_) (fun c5=>?_)
  ·have c5:al[i]≠(i:Int):=bneT c5;rw[if_pos fun e=>c5 ((ziF c4).1 e i g1)];refine zag Tk (r:=ii 6) rfl rfl rfl trivial rfl rfl ?_;rfl
  have c5:al[i]=(i:Int):=bneF c5;refine zah ?_;refine ih (i+1) _ _ ⟨g1,fun j hj h=>?_⟩ (by omega) ⟨rfl,rfl,rfl,congrArg ii (zaC (n:=zar) (by omega) (by decide)),trivial⟩ rfl ⟨rfl,trivial⟩ rfl rfl
  by_cases e:j=i
  ·subst e;exact c5
  ·exact hno j hj (by omega)
 ·have g1:al.length≤i:=by simpa using g1
  rw[if_neg (fun h=>h ((ziF c4).2 fun j hj=>hno j hj (by omega)))];refine zaj Tk Tryz.func120 (h3 _) rfl rfl rfl rfl rfl ?_;refine zag Tk (r:=ii e3) rfl rfl rfl trivial rfl rfl ?_;rfl
def namK (m:Mdl) (k:Int):List ByteArray:=
 if k=1 then m.evs.map (·.name) else if k=2 then m.tpls.map (·.name) else if k=3 then m.comps.map (·.name) else if k=4 then m.reqs.map (·.name) else if k=5 then m.excs.map (·.name) else if k=6 then m.cons.map (·.name) else []
abbrev fnd0 (R:Int):Int:=if R<0 then 0 else R
abbrev fndD (R:Int):D:=.tup [ii (fnd0 R),bb (decide (0≤R))]
structure szOk (m:Mdl):Prop where
 ev:m.evs.length≤1000000
 tp:m.tpls.length≤1000000
 co:m.comps.length≤1000000
 rq:m.reqs.length≤1000000
 ex:m.excs.length≤1000000
 cn:m.cons.length≤1000000
theorem zew (O:List Heap) (m:Mdl) (k:Int) (s:ByteArray) (hm:szOk m):zao Tryz.prog 38 [mdlD m,ii k,sD s] O (fndD (nmIx (namK m k) s)) [] O:=by
 have i1:=fun O d nm ho=>zvi O m.evs 105 d nm (fun x=>sB x.name s) (by have:=hm.ev;simp only[zar];omega) fun x _=>zw1 _ x s (d+1) nm (zay ho);have i2:=fun O d nm ho=>zvh O m.tpls 107 d nm (fun x=>sB x.name s) (by have:=hm.tp;simp only[zar];omega) fun x _=>zw0 _ x s (d+1) nm (zay ho);have i3:=fun O d nm ho=>znN O m.comps 109 d nm (fun x=>sB x.name s) (by have:=hm.co;simp only[zar];omega) fun x _=>zwZ _ x s (d+1) nm (zay ho);have i4:=fun O d nm ho=>znN O m.reqs 110 d nm (fun x=>sB x.name s) (by have:=hm.rq;simp only[zar];omega) fun x _=>zwY _ x s (d+1) nm (zay ho);have i5:=fun O d nm ho=>zvg O m.excs 112 d nm (fun x=>sB x.name s) (by have:=hm.ex;simp only[zar];omega) fun x _=>zwX _ x s (d+1) nm (zay ho);have i6:=fun O d nm ho=>zvf O m.cons 114 d nm (fun x=>sB x.name s) (by have:=hm.cn;simp only[zar];omega) fun x _=>zwW _ x s (d+1) nm (zay ho)
 have e1:nmIx (m.evs.map (·.name)) s=zaw (fun x=>sB x.name s) m.evs 0:=zb3 (fun x=>sB x s) Evt.name _ _;have e2:nmIx (m.tpls.map (·.name)) s=zaw (fun x=>sB x.name s) m.tpls 0:=zb3 (fun x=>sB x s) Tpl.name _ _;have e3:nmIx (m.comps.map (·.name)) s=zaw (fun x=>sB x.name s) m.comps 0:=zb3 (fun x=>sB x s) Ins.name _ _;have e4:nmIx (m.reqs.map (·.name)) s=zaw (fun x=>sB x.name s) m.reqs 0:=zb3 (fun x=>sB x s) Ins.name _ _;have e5:nmIx (m.excs.map (·.name)) s=zaw (fun x=>sB x.name s) m.excs 0:=zb3 (fun x=>sB x s) NEx.name _ _;have e6:nmIx (m.cons.map (·.name)) s=zaw (fun x=>sB x.name s) m.cons 0:=zb3 (fun x=>sB x s) NCn.name _ _;rw[←e1] at i1;rw[←e2] at i2;rw[←e3] at i3;rw[←e4] at i4;rw[←e5] at i5;rw[←e6] at i6;clear e1 e2 e3 e4 e5 e6;unfold namK;obtain⟨nm,evs,tpls,comps,reqs,excs,cons⟩:=m;simp only at i1 i2 i3 i4 i5 i6 ⊢
 refine zaa Tk Tryz.func38 rfl Tryz.call38 Tryz.ntmps38 (Nat.le_of_ble_eq_true rfl) fun E=>?_;refine zai Tk Tryz.func38 ?_;refine zae Tk Tryz.func38 rfl (fun c1=>?_) (fun c1=>?_)
 ·have c1:k=1:=beqT c1;rw[if_pos c1];generalize nmIx (evs.map (·.name)) s=R at *;refine zaj Tk Tryz.func38 (i1 _ 0 5 rfl) rfl rfl rfl rfl rfl ?_;refine zag Tk (r:=fndD R) rfl rfl rfl trivial rfl rfl ?_;rfl
 have c1:¬k=1:=beqF c1;rw[if_neg c1];refine zae Tk Tryz.func38 rfl (fun c2=>?_) (fun c2=>?_)
 ·have c2:k=2:=beqT c2;rw[if_pos c2];generalize nmIx (tpls.map (·.name)) s=R at *;refine zaj Tk Tryz.func38 (i2 _ 0 5 rfl) rfl rfl rfl rfl rfl ?_;refine zag Tk (r:=fndD R) rfl rfl rfl trivial rfl rfl ?_;rfl
 have c2:¬k=2:=beqF c2;rw[if_neg c2];refine zae Tk Tryz.func38 rfl (fun c3=>?_) (fun c3=>?_)
 ·have c3:k=3:=beqT c3;rw[if_pos c3];generalize nmIx (comps.map (·.name)) s=R at *;refine zaj Tk Tryz.func38 (i3 _ 0 5 rfl) rfl rfl rfl rfl rfl ?_;refine zag Tk (r:=fndD R) rfl rfl rfl trivial rfl rfl ?_;rfl
 have c3:¬k=3:=beqF c3;rw[if_neg c3];refine zae Tk Tryz.func38 rfl (fun c4=>?_) (fun c4=>?_)
 ·have c4:k=4:=beqT c4;rw[if_pos c4];generalize nmIx (reqs.map (·.name)) s=R at *;refine zaj Tk Tryz.func38 (i4 _ 0 5 rfl) rfl rfl rfl rfl rfl ?_;refine zag Tk (r:=fndD R) rfl rfl rfl trivial rfl rfl ?_;rfl
 have c4:¬k=4:=beqF c4;rw[if_neg c4];refine zae Tk Tryz.func38 rfl (fun c5=>?_) (fun c5=>?_)
 ·have c5:k=5:=beqT c5;rw[if_pos c5];generalize nmIx (excs.map (·.name)) s=R at *;refine zaj Tk Tryz.func38 (i5 _ 0 5 rfl) rfl rfl rfl rfl rfl ?_;refine zag Tk (r:=fndD R) rfl rfl rfl trivial rfl rfl ?_;rfl
 have c5:¬k=5:=beqF c5;rw[if_neg c5];refine zae Tk Tryz.func38 rfl (fun c6=>?_) (fun c6=>?_)
 ·have c6:k=6:=beqT c6;rw[if_pos c6];generalize nmIx (cons.map (·.name)) s=R at *;refine zaj Tk Tryz.func38 (i6 _ 0 5 rfl) rfl rfl rfl rfl rfl ?_;refine zag Tk (r:=fndD R) rfl rfl rfl trivial rfl rfl ?_;rfl
 have c6:¬k=6:=beqF c6;rw[if_neg c6];refine zag Tk (r:=fndD (-1)) rfl rfl rfl trivial rfl rfl ?_;rfl
theorem zdD {α:Type} (nm:α→ByteArray) (l:List α) (s:ByteArray):(l.find? (fun x=>sB (nm x) s)=none∧nmIx (l.map nm) s = -1)∨∃(k:Nat) (e:α),l[k]? = some e∧l.find? (fun x=>sB (nm x) s)=some e∧nmIx (l.map nm) s=((k:Nat):Int):=by
 have e:nmIx (l.map nm) s=zaw (fun x=>sB (nm x) s) l 0:=zb3 (fun x=>sB x s) nm l 0;rw[e];rcases zfX (p:=fun x=>sB (nm x) s) l 0 with h|⟨k,x,h1,h2,h3⟩
 ·exact .inl h
 ·exact .inr ⟨k,x,h1,h2,by rw[h3,Nat.zero_add]⟩
theorem znF (O:List Heap) (n:Int):zao Tryz.prog 170 [ii n] O (bb (bigB n)) [] O:=by
 unfold bigB;refine zaa Tk Tryz.func170 rfl Tryz.call170 Tryz.ntmps170 (Nat.le_of_ble_eq_true rfl) fun E=>?_;refine zai Tk Tryz.func170 ?_;refine zaK Tk Tryz.func170 rfl (fun c1=>?_) (fun c1=>?_)
 ·rw[show decide (n>65536)=true from c1];refine zag Tk (r:=bb true) rfl rfl rfl trivial rfl rfl ?_;rfl
 ·rw[show decide (n>65536)=false from c1];refine zag Tk (r:=bb (decide (n < -65536))) rfl rfl rfl trivial rfl rfl ?_;rfl
theorem zgz (O:List Heap) (m:Mdl) (c k:Nat) (y:Ins) (t:Tpl) (hm:szOk m) (hy:m.comps[c]? = some y) (hk:nmIx (m.tpls.map (·.name)) y.tpl=(k:Int)) (ht:m.tpls[k]? = some t) :
  zao Tryz.prog 167 [mdlD m,ii c] O (tplD t) [] O:=by
 have hf:=fun O=>zew O m 2 y.tpl hm;rw[show namK m 2=m.tpls.map (·.name) from rfl,hk] at hf;have hc:c<m.comps.length:=(List.getElem?_eq_some_iff.1 hy).1;have hkl:k<m.tpls.length:=(List.getElem?_eq_some_iff.1 ht).1;have gy:(m.comps.map insI)[(c:Int).toNat]? = some (insI y):=by rw[Int.toNat_natCast,List.getElem?_map,hy];rfl
 have gt:(m.tpls.map tplI)[(k:Int).toNat]? = some (tplI t):=by rw[Int.toNat_natCast,List.getElem?_map,ht];rfl
 rw[show fndD (k:Int)=.tup [ii k,bb true] from by simp[fndD,fnd0];omega] at hf;obtain⟨nm,evs,tpls,comps,reqs,excs,cons⟩:=m;simp only at hf hc hkl gy gt;refine zaa Tk Tryz.func167 rfl Tryz.call167 Tryz.ntmps167 (Nat.le_of_ble_eq_true rfl) fun E=>?_;refine zai Tk Tryz.func167 ?_;refine zav Tk Tryz.func167 zaz rfl ?_;refine zas Tk (by exact⟨by omega,by show (c:Int)<(comps.length:Int);omega⟩) ?_;refine zaE Tk (gy) ?_;refine zaJ Tk (fun _=>hf _) rfl rfl rfl ?_;refine zaB Tk Tryz.func167 (by kernel_rfl) ?_;refine zad Tk Tryz.func167 (by exact⟨by omega,by show (k:Int)<(tpls.length:Int);omega⟩) ?_;refine zap Tk Tryz.func167 (gt) ?_;refine zag Tk (r:=tplD t) rfl rfl rfl trivial rfl rfl ?_;rfl
theorem zsh {k:ByteArray} {c:Value} (h:keyB (.string k) c=true) (k':ByteArray):keyB (.string k') c=(k' == k):=by
 cases c with
 |string s=>
  have e1:k=s:=(zql _ _).1 h;rw[e1];rfl
 |_=>simp[keyB] at h
theorem zg1 {α:Type} (k:ByteArray) (v:α) (k':ByteArray):∀m:List (Value×α),zdR (mset m (.string k) v) (.string k')=if k'=k then some v else zdR m (.string k')
 |[]=>by
  simp only[mset,zdR];rw[show keyB (.string k') (.string k)=(k' == k) from rfl]
  by_cases h:k'=k
  ·rw[if_pos h,h,ztn];rfl
  ·rw[if_neg h];have:(k' == k)=false:=by
    rw[Bool.eq_false_iff];exact fun e=>h ((zql _ _).1 e)
   rw[this];rfl
 |(c,y)::r=>by
  simp only[mset]
  cases hk:keyB (.string k) c with
  |true=>
   simp only[cond_true,zdR];rw[zsh hk,show keyB (.string k') (.string k)=(k' == k) from rfl]
   by_cases h:k'=k
   ·rw[if_pos h,h,ztn];rfl
   ·rw[if_neg h];have:(k' == k)=false:=by
     rw[Bool.eq_false_iff];exact fun e=>h ((zql _ _).1 e)
    rw[this];rfl
  |false=>
   simp only[cond_false,zdR];rw[zg1 k v k' r]
   by_cases h:k'=k
   ·rw[if_pos h,if_pos h,h,hk];rfl
   ·rw[if_neg h,if_neg h]
theorem zli (es:List (Value×Bool)) (k s:ByteArray):ziS (mset es (.string k) true) (.string s)=(ziS es (.string s)||sB k s):=by
 unfold ziS;rw[zg1]
 by_cases h:s=k
 ·rw[if_pos h,h,zfS.2 rfl];simp
 ·have:sB k s=false:=by rw[Bool.eq_false_iff];exact fun e=>h (zfS.1 e).symm
  rw[if_neg h,this,Bool.or_false]
theorem zsB (b:List ByteArray) (k s:ByteArray):hasB (b++[k]) s=(hasB b s||sB k s):=by simp[hasB,List.any_append]
theorem zaI {α β:Type} (f:α→β) {l:List α} {i:Nat} (h:i<l.length):(l.take (i+1)).map f=(l.take i).map f++[f l[i]]:=by
 rw[List.take_succ_eq_append_getElem h,List.map_append];rfl
section
variable {B:List ByteArray} {nm:ByteArray} {c o f:Bool} {fl:Int}
theorem zzt (hn:zaW nm=false):evE B ⟨nm,c,o,f,fl⟩=7:=by simp[evE,nmE,hn]
theorem zzs (hn:¬zaW nm=false) (hb:hasB B nm=true):evE B ⟨nm,c,o,f,fl⟩=8:=by simp[evE,nmE,hn,hb]
theorem zyZ (hn:¬zaW nm=false) (hb:hasB B nm=false) (h:fl<0∨fl>4):evE B ⟨nm,c,o,f,fl⟩=2:=by
 have e:nmE B nm=0:=by simp[nmE,hn,hb]
 unfold evE;simp only[e];rw[if_neg (by decide),if_pos h]
theorem zwf (hn:¬zaW nm=false) (hb:hasB B nm=false) (h:¬(fl<0∨fl>4)) (h2:fl≠0∧(c=true∨o=true)):evE B ⟨nm,c,o,f,fl⟩=13:=by
 have e:nmE B nm=0:=by simp[nmE,hn,hb]
 unfold evE;simp only[e];rw[if_neg (by decide),if_neg h,if_pos h2]
theorem zy0 (hn:¬zaW nm=false) (hb:hasB B nm=false) (h:¬(fl<0∨fl>4)) (h2:¬(fl≠0∧(c=true∨o=true))):evE B ⟨nm,c,o,f,fl⟩=0:=by
 have e:nmE B nm=0:=by simp[nmE,hn,hb]
 unfold evE;simp only[e];rw[if_neg (by decide),if_neg h,if_neg h2]
end
theorem ztv (O:List Heap) (l:List Evt) (hl:l.length≤1000000) (hs:∀x∈l,x.name.size≤zar):zao Tryz.prog 46 [.i (zbb l)] O (ii (zjo l)) [] O:=by
 unfold zjo;generalize hR:evsE [] l=R;refine zaa Tk Tryz.func46 rfl Tryz.call46 Tryz.ntmps46 (Nat.le_of_ble_eq_true rfl) fun E=>?_;refine zai Tk Tryz.func46 ?_;refine zae Tk Tryz.func46 rfl (fun c1=>?_) (fun c1=>?_)
 ·have c1:l.length>32:=by have:(l.length:Int)>32:=of_decide_eq_true c1;omega
  rw[if_pos c1];refine zag Tk (r:=ii 3) rfl rfl rfl trivial rfl rfl ?_;rfl
 have c1:¬l.length>32:=by have:¬(l.length:Int)>32:=of_decide_eq_false c1;omega
 rw[if_neg c1];refine zah ?_;refine zak (fun x:Nat×List (Value×Bool)=>[(3,.osl 0 9),(10,.i (zbb l)),(11,ii l.length),(12,ii x.1)]) (fun x=>[(9,.mp .str (.b x.2))]) (fun _=>O) 51
  (fun x=>x.1≤l.length∧(∀s,ziS x.2 (.string s)=hasB ((l.take x.1).map (·.name)) s)∧evsE ((l.take x.1).map (·.name)) (l.drop x.1)=R) (fun x=>l.length-x.1) (0,[]) ⟨Nat.zero_le _,fun s=>rfl,hR⟩ ⟨rfl,rfl,rfl,rfl,trivial⟩ rfl ⟨rfl,trivial⟩ rfl rfl ?_
 rintro ⟨i,es⟩ ⟨hi,hes,hno⟩ ih;simp only at hi hes hno;clear hR;refine zai Tk Tryz.func46 ?_;refine zae Tk Tryz.func46 rfl (fun g1=>?_) (fun g1=>?_)
 ·have h1:i<l.length:=by simpa using g1
  have gs:(l.map evtI)[(i:Int).toNat]? = some (evtI l[i]):=zan (f:=evtI) h1;have ht:=zaI Evt.name h1;rw[List.drop_eq_getElem_cons h1] at hno;simp only[evsE,←ht] at hno;have hn:=fun O=>zdv O l[i].name (hs _ (List.getElem_mem h1));have hj1:ii (IntKind.i64.wrap ((i:Int)+1))=ii ((i+1:Nat):Int):=congrArg ii (zaC (n:=1000001) (by omega) (by decide));have hes2:∀s,ziS (mset es (.string l[i].name) true) (.string s)=hasB ((l.take (i+1)).map (·.name)) s:=fun s=>by rw[zli,hes,ht,zsB]
  clear ht;generalize l[i]=x at *;obtain⟨nm,c,o,f,fl⟩:=x;simp only at hno hn hes2;have hh:=hes nm;generalize (l.take i).map (·.name)=B at *;generalize hq:zaW nm=nb at *;generalize hw:hasB B nm=hb at *;refine zad Tk Tryz.func46 (by exact⟨by omega,by show (i:Int)<(l.length:Int);omega⟩) ?_;refine zap Tk Tryz.func46 (gs) ?_;refine zaj Tk Tryz.func46 (hn _) rfl rfl rfl rfl rfl ?_;refine zae Tk Tryz.func46 rfl (fun c2=>?_) (fun c2=>?_)
  ·have c2:nb=false:=by simpa using c2
   rw[zzt (hq.trans c2),if_pos (by decide)] at hno;subst hno;refine zag Tk (r:=ii 7) rfl rfl rfl trivial rfl rfl ?_;rfl
  have c2:¬zaW nm=false:=by rw[hq];simpa using c2
  refine zae Tk Tryz.func46 rfl (fun c3=>?_) (fun c3=>?_)
  ·have c3:hb=true:=by rw[←hh];exact c3
   rw[zzs c2 (hw.trans c3),if_pos (by decide)] at hno;subst hno;refine zag Tk (r:=ii 8) rfl rfl rfl trivial rfl rfl ?_;rfl
  have c3:hasB B nm=false:=by rw[hw,←hh];exact c3
  refine zaK Tk Tryz.func46 rfl (fun c4=>?_) (fun c4=>?_)
  ·have c4:fl<0:=of_decide_eq_true c4;rw[zyZ c2 c3 (.inl c4),if_pos (by decide)] at hno;subst hno;refine gcT Tk Tryz.func46 rfl ?_;refine zag Tk (r:=ii 2) rfl rfl rfl trivial rfl rfl ?_;rfl
  have c4:¬fl<0:=of_decide_eq_false c4;refine zae Tk Tryz.func46 rfl (fun c5=>?_) (fun c5=>?_)
  ·have c5:fl>4:=of_decide_eq_true c5;rw[zyZ c2 c3 (.inr c5),if_pos (by decide)] at hno;subst hno;refine zag Tk (r:=ii 2) rfl rfl rfl trivial rfl rfl ?_;rfl
  have c5:¬fl>4:=of_decide_eq_false c5;have c45:¬(fl<0∨fl>4):=by omega
  refine zaK Tk Tryz.func46 rfl (fun c6=>?_) (fun c6=>?_)
  ·have c6:fl≠0:=bneT c6;refine zaK Tk Tryz.func46 rfl (fun c7=>?_) (fun c7=>?_)
   ·have c7:c=true:=c7;rw[zwf c2 c3 c45 ⟨c6,.inl c7⟩,if_pos (by decide)] at hno;subst hno;refine gcT Tk Tryz.func46 rfl ?_;refine zag Tk (r:=ii 13) rfl rfl rfl trivial rfl rfl ?_;rfl
   have c7:c=false:=c7;refine zae Tk Tryz.func46 rfl (fun c8=>?_) (fun c8=>?_)
   ·have c8:o=true:=c8;rw[zwf c2 c3 c45 ⟨c6,.inr c8⟩,if_pos (by decide)] at hno;subst hno;refine zag Tk (r:=ii 13) rfl rfl rfl trivial rfl rfl ?_;rfl
   have c8:o=false:=c8;rw[zy0 c2 c3 c45 (by rw[c7,c8];simp),if_neg (by decide)] at hno;refine zah ?_;exact ih (i+1,mset es (.string nm) true) _ _ ⟨h1,hes2,hno⟩ (by simp only;omega) ⟨rfl,rfl,rfl,hj1,trivial⟩ rfl ⟨rfl,trivial⟩ rfl rfl
  ·have c6:¬fl≠0:=fun h=>h (bneF c6);rw[zy0 c2 c3 c45 (fun h=>c6 h.1),if_neg (by decide)] at hno;refine gcF Tk Tryz.func46 rfl ?_;refine zah ?_;exact ih (i+1,mset es (.string nm) true) _ _ ⟨h1,hes2,hno⟩ (by simp only;omega) ⟨rfl,rfl,rfl,hj1,trivial⟩ rfl ⟨rfl,trivial⟩ rfl rfl
 ·have h1:l.length≤i:=by simpa using g1
  rw[List.drop_eq_nil_of_le h1] at hno;have hno:(0:Int)=R:=hno;subst hno;refine zag Tk (r:=ii 0) rfl rfl rfl trivial rfl rfl ?_;rfl
structure insOk (x:Ins):Prop where
 nm:x.name.size≤zar
 el:x.evs.length≤1000000
theorem zfi (k:Nat):fndD (k:Int)=.tup [ii k,bb true]:=by
 have h:(0:Int)≤(k:Int):=by omega
 simp only[fndD,fnd0];rw[if_neg (by omega),decide_eq_true h]
theorem zdU (l:List ByteArray) (s:ByteArray):hasB l s=decide (0≤nmIx l s):=(zbq (fun x=>sB x s) l 0).symm
theorem zgb (O:List Heap) (m:Mdl) (x:Ins) (hm:szOk m) (hx:x.evs.length≤1000000):zao Tryz.prog 121 [mdlD m,insD x] O (ii (insE m x)) [] O:=by
 have hf:=fun O=>zew O m 2 x.tpl hm;rw[show namK m 2=m.tpls.map (·.name) from rfl] at hf;have hf1:=fun O s=>zew O m 1 s hm;rw[show namK m 1=m.evs.map (·.name) from rfl] at hf1;unfold insE;rcases zdD Tpl.name m.tpls x.tpl with ⟨h1,h2⟩|⟨k,t,h1,h2,h3⟩
 ·rw[h2,show fndD (-1)=.tup [ii 0,bb false] from rfl] at hf;rw[h1];refine zaa Tk Tryz.func121 rfl Tryz.call121 Tryz.ntmps121 (Nat.le_of_ble_eq_true rfl) fun E=>?_;refine zai Tk Tryz.func121 ?_;refine zaj Tk Tryz.func121 (hf _) rfl rfl rfl rfl rfl ?_;refine gcT Tk Tryz.func121 rfl ?_;refine zag Tk (r:=ii 9) rfl rfl rfl trivial rfl rfl ?_;rfl
 rw[h3,zfi] at hf;rw[h2];clear h2 h3;simp only;have hkl:k<m.tpls.length:=(List.getElem?_eq_some_iff.1 h1).1;have gt:(m.tpls.map tplI)[(k:Int).toNat]? = some (tplI t):=by rw[Int.toNat_natCast,List.getElem?_map,h1];rfl
 clear h1;generalize hR:zev m [] x.evs=R;obtain⟨xn,xt,xe⟩:=x;simp only at hf hR hx ⊢;refine zaa Tk Tryz.func121 rfl Tryz.call121 Tryz.ntmps121 (Nat.le_of_ble_eq_true rfl) fun E=>?_;refine zai Tk Tryz.func121 ?_;refine zaj Tk Tryz.func121 (hf _) rfl rfl rfl rfl rfl ?_;refine gcF Tk Tryz.func121 rfl ?_;refine zav Tk Tryz.func121 zaz rfl ?_;refine zas Tk (by exact⟨by omega,by show (k:Int)<(m.tpls.length:Int);omega⟩) ?_;refine zaE Tk (gt) ?_;refine zaB Tk Tryz.func121 (by kernel_rfl) ?_;refine zae Tk Tryz.func121 rfl (fun c1=>?_) (fun c1=>?_)
 ·have c1:(xe.length:Int)≠(t.evs.length:Int):=bneT c1;rw[if_pos (by omega)];refine zag Tk (r:=ii 4) rfl rfl rfl trivial rfl rfl ?_;rfl
 have c1:(xe.length:Int)=(t.evs.length:Int):=bneF c1;rw[if_neg (by omega)];refine zah ?_;refine zak (fun i:Nat=>[(2,.own 0 2 0 0),(3,.own 0 3 0 0),(34,ssD xe),(35,ii xe.length),(36,ii i)]) (fun _=>[(2,.box (mdlC m)),(3,.box (insC ⟨xn,xt,xe⟩))]) (fun _=>O) 56
  (fun i=>i≤xe.length∧zev m (xe.take i) (xe.drop i)=R) (fun i=>xe.length-i) 0 ⟨Nat.zero_le _,hR⟩ ⟨rfl,rfl,rfl,rfl,rfl,trivial⟩ rfl ⟨rfl,rfl,trivial⟩ rfl rfl ?_
 clear hR;rintro i ⟨hi,hno⟩ ih;refine zai Tk Tryz.func121 ?_;refine zae Tk Tryz.func121 rfl (fun g1=>?_) (fun g1=>?_)
 ·have g1:i<xe.length:=by simpa using g1
  have gs:(xe.map fun s=>[strI s])[(i:Int).toNat]? = some [strI xe[i]]:=zan (f:=fun s=>[strI s]) g1;have ht:xe.take (i+1)=xe.take i++[xe[i]]:=List.take_succ_eq_append_getElem g1;rw[List.drop_eq_getElem_cons g1] at hno;simp only[zev,←ht,zdU (m.evs.map (·.name))] at hno;have hc:∀O,zao Tryz.prog 124 [.i (.sl 1 i ((xe.map fun s=>[strI s]).take i)),sD xe[i]] O (bb (hasB (xe.take i) xe[i])) [] O:=fun O=>by
   rw[←zdI (fun s=>[strI s]) 1 hi];exact zcp O (xe.take i) xe[i] (by rw[List.length_take];simp only[zar];omega)
  have hf2:=fun O=>hf1 O xe[i];clear hf1 ht;generalize hasB (xe.take i) xe[i]=hb at *;generalize nmIx (m.evs.map (·.name)) xe[i]=q at *;generalize xe[i]=s at *;refine zad Tk Tryz.func121 (by exact⟨by omega,by show (i:Int)<(xe.length:Int);omega⟩) ?_;refine zap Tk Tryz.func121 (gs) ?_;refine zaj Tk Tryz.func121 (hf2 _) rfl rfl rfl rfl rfl ?_;refine zae Tk Tryz.func121 rfl (fun c2=>?_) (fun c2=>?_)
  ·have c2:decide (0≤q)=false:=by simpa using c2
   rw[if_pos c2] at hno;subst hno;refine zag Tk (r:=ii 9) rfl rfl rfl trivial rfl rfl ?_;rfl
  have c2:¬decide (0≤q)=false:=by simpa using c2
  rw[if_neg c2] at hno;refine zad Tk Tryz.func121 (by exact⟨by omega,by show (i:Int)≤(xe.length:Int);omega⟩) ?_;refine zaj Tk Tryz.func121 (hc _) rfl rfl rfl rfl rfl ?_;refine zae Tk Tryz.func121 rfl (fun c3=>?_) (fun c3=>?_)
  ·have c3:hb=true:=c3;rw[if_pos c3] at hno;subst hno;refine zag Tk (r:=ii 8) rfl rfl rfl trivial rfl rfl ?_;rfl
  have c3:hb=false:=c3;rw[if_neg (zgU c3)] at hno;refine zah ?_;exact ih (i+1) _ _ ⟨g1,hno⟩ (by omega) ⟨rfl,rfl,rfl,rfl,congrArg ii (zaC (n:=1000001) (by omega) (by decide)),trivial⟩ rfl ⟨rfl,rfl,trivial⟩ rfl rfl
 ·have g1:xe.length≤i:=by simpa using g1
  rw[List.drop_eq_nil_of_le g1] at hno;have hno:(0:Int)=R:=hno;subst hno;refine zag Tk (r:=ii 0) rfl rfl rfl trivial rfl rfl ?_;rfl
def lcsW (m:Mdl) (l:List NLc):Int:=if l.length=0 then 12 else lcsE m [] l
theorem ztu {α:Type} (f:α→ByteArray) (l:List α) (s:ByteArray):(l.any fun y=>sB (f y) s)=hasB (l.map f) s:=by simp[hasB,List.any_map];rfl
theorem zhL (O:List Heap) (m:Mdl) (l:List NLc) (hm:szOk m) (hl:l.length≤1000000) (hT:∀c∈m.comps,∃t,zb4 m c=some t∧t.locs.length≤1000000):zao Tryz.prog 125 [mdlD m,.i (zr0 l)] O (ii (lcsW m l)) [] O:=by
 unfold lcsW;have hf1:=fun O s=>zew O m 3 s hm;rw[show namK m 3=m.comps.map (·.name) from rfl] at hf1;generalize hR:lcsE m [] l=R;refine zaa Tk Tryz.func125 rfl Tryz.call125 Tryz.ntmps125 (Nat.le_of_ble_eq_true rfl) fun E=>?_;refine zai Tk Tryz.func125 ?_;refine zae Tk Tryz.func125 rfl (fun c1=>?_) (fun c1=>?_)
 ·have c1:l.length=0:=by have:(l.length:Int)=0:=beqT c1;omega
  rw[if_pos c1];refine zag Tk (r:=ii 12) rfl rfl rfl trivial rfl rfl ?_;rfl
 have c1:¬l.length=0:=by have:¬(l.length:Int)=0:=beqF c1;omega
 rw[if_neg c1];refine zah ?_;refine zak (fun i:Nat=>[(1,.i (zr0 l)),(2,.own 0 2 0 0),(12,.i (zr0 l)),(13,ii l.length),(14,ii i)]) (fun _=>[(2,.box (mdlC m))]) (fun _=>O) 45
  (fun i=>i≤l.length∧lcsE m ((l.take i).map (·.1)) (l.drop i)=R) (fun i=>l.length-i) 0 ⟨Nat.zero_le _,hR⟩ ⟨rfl,rfl,rfl,rfl,rfl,trivial⟩ rfl ⟨rfl,trivial⟩ rfl rfl ?_
 clear hR;rintro i ⟨hi,hno⟩ ih;refine zai Tk Tryz.func125 ?_;refine zae Tk Tryz.func125 rfl (fun g1=>?_) (fun g1=>?_)
 ·have g1:i<l.length:=by simpa using g1
  have gs:(l.map nlcI)[(i:Int).toNat]? = some (nlcI l[i]):=zan (f:=nlcI) g1;have ht:=zaI (fun x:NLc=>x.1) g1;rw[List.drop_eq_getElem_cons g1] at hno;simp only[lcsE,←ht] at hno;have hcc:∀S,zab S 0 6=some (.box [sD l[i].1,sD l[i].2])→zao Tryz.prog 165 [.i (.sl 2 i ((l.map nlcI).take i)),.fn (.func 166) [] [.own 0 6 0 0]] S (bb (hasB ((l.take i).map (·.1)) l[i].1)) [] S:=fun S ho=>by
   rw[←zdI nlcI 2 hi,←ztu (fun y:NLc=>y.1)];exact zlR S (l.take i) 166 0 6 (fun y=>sB y.1 l[i].1) (by rw[List.length_take];simp only[zar];omega) (fun y _=>zwV _ y l[i].1 l[i].2 2 6 (zay (zay ho)))
  have hf2:=fun O=>hf1 O l[i].1;clear hf1;have hj1:ii (IntKind.i64.wrap ((i:Int)+1))=ii ((i+1:Nat):Int):=congrArg ii (zaC (n:=1000001) (by omega) (by decide));generalize hasB ((l.take i).map (·.1)) l[i].1=hb at *;clear ht;generalize l[i]=x at *;obtain⟨cn,ln⟩:=x;simp only at hno hcc hf2;rcases zdD Ins.name m.comps cn with ⟨h1,h2⟩|⟨k,c,h1,h2,h3⟩
  ·rw[h2,show fndD (-1)=.tup [ii 0,bb false] from rfl] at hf2;rw[h1] at hno;simp only at hno;subst hno;refine zad Tk Tryz.func125 (by exact⟨by omega,by show (i:Int)<(l.length:Int);omega⟩) ?_;refine zap Tk Tryz.func125 (gs) ?_;refine zaj Tk Tryz.func125 (hf2 _) rfl rfl rfl rfl rfl ?_;refine gcT Tk Tryz.func125 rfl ?_;refine zag Tk (r:=ii 9) rfl rfl rfl trivial rfl rfl ?_;rfl
  rw[h3,zfi] at hf2;rw[h2] at hno;simp only at hno;obtain⟨t,ht,htl⟩:=hT c (List.mem_of_getElem? h1);rw[ht] at hno;simp only at hno;unfold zb4 at ht;rcases zdD Tpl.name m.tpls c.tpl with ⟨h4,_⟩|⟨k2,t',h4,h5,h6⟩
  ·rw[h4] at ht;cases ht
  rw[h5] at ht
  cases ht
  have h7:=fun O=>zgz O m k k2 c t hm h1 h6 h4;have h8:=fun O=>zcp O t.locs ln (by simp only[zar];omega);generalize hasB t.locs ln=hb2 at *;refine zad Tk Tryz.func125 (by exact⟨by omega,by show (i:Int)<(l.length:Int);omega⟩) ?_;refine zap Tk Tryz.func125 (gs) ?_;refine zaj Tk Tryz.func125 (hf2 _) rfl rfl rfl rfl rfl ?_;refine gcF Tk Tryz.func125 rfl ?_;refine zad Tk Tryz.func125 (by exact⟨by omega,by show (i:Int)≤(l.length:Int);omega⟩) ?_;refine zaj Tk Tryz.func125 (hcc _ rfl) rfl rfl rfl rfl rfl ?_;refine zae Tk Tryz.func125 rfl (fun c2=>?_) (fun c2=>?_)
  ·have c2:hb=true:=c2;rw[if_pos c2] at hno;subst hno;refine zag Tk (r:=ii 8) rfl rfl rfl trivial rfl rfl ?_;rfl
  have c2:hb=false:=c2;rw[if_neg (zgU c2)] at hno;refine zav Tk Tryz.func125 zaz rfl ?_;refine zaJ Tk (fun _=>h7 _) rfl rfl rfl ?_;refine zaJ Tk (fun _=>h8 _) rfl rfl rfl ?_;refine zaB Tk Tryz.func125 (by kernel_rfl) ?_;refine zae Tk Tryz.func125 rfl (fun c3=>?_) (fun c3=>?_)
  ·have c3:hb2=false:=by simpa using c3
   rw[if_pos c3] at hno;subst hno;refine zag Tk (r:=ii 9) rfl rfl rfl trivial rfl rfl ?_;rfl
  have c3:¬hb2=false:=by simpa using c3
  rw[if_neg c3] at hno;refine zah ?_;exact ih (i+1) _ _ ⟨g1,hno⟩ (by omega) ⟨rfl,rfl,rfl,rfl,hj1,trivial⟩ rfl ⟨rfl,trivial⟩ rfl rfl
 ·have g1:l.length≤i:=by simpa using g1
  rw[List.drop_eq_nil_of_le g1] at hno;have hno:(0:Int)=R:=hno;subst hno;refine zag Tk (r:=ii 0) rfl rfl rfl trivial rfl rfl ?_;rfl
theorem zjj (O:List Heap) (m:Mdl) (x:NCn) (hm:szOk m) (hl:x.terms.length≤1000000):zao Tryz.prog 126 [mdlD m,ncnD x] O (ii (conE m x)) [] O:=by
 unfold conE;have hf1:=fun O s=>zew O m 3 s hm;rw[show namK m 3=m.comps.map (·.name) from rfl] at hf1;obtain⟨xn,l,bd⟩:=x;simp only at hl ⊢;generalize hR:tmsE m [] l=R;have hlb:=fun O=>znF O bd;generalize bigB bd=big at *;refine zaa Tk Tryz.func126 rfl Tryz.call126 Tryz.ntmps126 (Nat.le_of_ble_eq_true rfl) fun E=>?_;refine zai Tk Tryz.func126 ?_;refine zae Tk Tryz.func126 rfl (fun c1=>?_) (fun c1=>?_)
 ·have c1:l.length=0:=by have:(l.length:Int)=0:=beqT c1;omega
  rw[if_pos c1];refine zag Tk (r:=ii 12) rfl rfl rfl trivial rfl rfl ?_;rfl
 have c1:¬l.length=0:=by have:¬(l.length:Int)=0:=beqF c1;omega
 rw[if_neg c1];refine zah ?_;refine zak (fun i:Nat=>[(2,.own 0 2 0 0),(3,.own 0 3 0 0),(14,.i (zxf l)),(15,ii l.length),(16,ii i)]) (fun _=>[(2,.box (mdlC m)),(3,.box (ncnC ⟨xn,l,bd⟩))]) (fun _=>O) 51
  (fun i=>i≤l.length∧tmsE m ((l.take i).map (·.1)) (l.drop i)=R) (fun i=>l.length-i) 0 ⟨Nat.zero_le _,hR⟩ ⟨rfl,rfl,rfl,rfl,rfl,trivial⟩ rfl ⟨rfl,rfl,trivial⟩ rfl rfl ?_
 clear hR;rintro i ⟨hi,hno⟩ ih;refine zai Tk Tryz.func126 ?_;refine zae Tk Tryz.func126 rfl (fun g1=>?_) (fun g1=>?_)
 ·have g1:i<l.length:=by simpa using g1
  have gs:(l.map ntmI)[(i:Int).toNat]? = some (ntmI l[i]):=zan (f:=ntmI) g1;have ht:=zaI (fun x:NTm=>x.1) g1;rw[List.drop_eq_getElem_cons g1] at hno;simp only[tmsE,←ht,zdU (m.comps.map (·.name))] at hno;have hcc:∀S,zab S 0 6=some (.box [sD l[i].1,ii l[i].2])→zao Tryz.prog 168 [.i (.sl 2 i ((l.map ntmI).take i)),.fn (.func 169) [] [.own 0 6 0 0]] S (bb (hasB ((l.take i).map (·.1)) l[i].1)) [] S:=fun S ho=>by
   rw[←zdI ntmI 2 hi,←ztu (fun y:NTm=>y.1)];exact zlQ S (l.take i) 169 0 6 (fun y=>sB y.1 l[i].1) (by rw[List.length_take];simp only[zar];omega) (fun y _=>zwU _ y l[i].1 l[i].2 2 6 (zay (zay ho)))
  have hf2:=fun O=>hf1 O l[i].1;have hlg:=fun O=>znF O l[i].2;clear hf1;have hj1:ii (IntKind.i64.wrap ((i:Int)+1))=ii ((i+1:Nat):Int):=congrArg ii (zaC (n:=1000001) (by omega) (by decide));generalize hasB ((l.take i).map (·.1)) l[i].1=hb at *;generalize nmIx (m.comps.map (·.name)) l[i].1=q at *;clear ht;generalize l[i]=x at *;obtain⟨cn,fc⟩:=x;simp only at hno hcc hf2 hlg;generalize bigB fc=bg at *;refine zad Tk Tryz.func126 (by exact⟨by omega,by show (i:Int)<(l.length:Int);omega⟩) ?_;refine zap Tk Tryz.func126 (gs) ?_;refine zaj Tk Tryz.func126 (hf2 _) rfl rfl rfl rfl rfl ?_;refine zae Tk Tryz.func126 rfl (fun c2=>?_) (fun c2=>?_)
  ·have c2:decide (0≤q)=false:=by simpa using c2
   rw[if_pos c2] at hno;subst hno;rw[if_pos (by decide)];refine zag Tk (r:=ii 9) rfl rfl rfl trivial rfl rfl ?_;rfl
  have c2:¬decide (0≤q)=false:=by simpa using c2
  rw[if_neg c2] at hno;refine zad Tk Tryz.func126 (by exact⟨by omega,by show (i:Int)≤(l.length:Int);omega⟩) ?_;refine zaj Tk Tryz.func126 (hcc _ rfl) rfl rfl rfl rfl rfl ?_;refine zae Tk Tryz.func126 rfl (fun c3=>?_) (fun c3=>?_)
  ·have c3:hb=true:=c3;rw[if_pos c3] at hno;subst hno;rw[if_pos (by decide)];refine zag Tk (r:=ii 8) rfl rfl rfl trivial rfl rfl ?_;rfl
  have c3:hb=false:=c3;rw[if_neg (zgU c3)] at hno;refine zaK Tk Tryz.func126 rfl (fun c4=>?_) (fun c4=>?_)
  ·have c4:fc=0:=beqT c4;rw[if_pos (.inl c4)] at hno;subst hno;rw[if_pos (by decide)];refine gcT Tk Tryz.func126 rfl ?_;refine zag Tk (r:=ii 2) rfl rfl rfl trivial rfl rfl ?_;rfl
  have c4:¬fc=0:=beqF c4;refine zaj Tk Tryz.func126 (hlg _) rfl rfl rfl rfl rfl ?_;refine zae Tk Tryz.func126 rfl (fun c5=>?_) (fun c5=>?_)
  ·have c5:bg=true:=c5;rw[if_pos (.inr c5)] at hno;subst hno;rw[if_pos (by decide)];refine zag Tk (r:=ii 2) rfl rfl rfl trivial rfl rfl ?_;rfl
  have c5:bg=false:=c5;rw[if_neg (by rw[c5];simp[c4])] at hno;refine zah ?_;exact ih (i+1) _ _ ⟨g1,hno⟩ (by omega) ⟨rfl,rfl,rfl,rfl,hj1,trivial⟩ rfl ⟨rfl,rfl,trivial⟩ rfl rfl
 ·have g1:l.length≤i:=by simpa using g1
  rw[List.drop_eq_nil_of_le g1] at hno;have hno:(0:Int)=R:=hno;subst hno;rw[if_neg (by decide)];refine zaj Tk Tryz.func126 (hlb _) rfl rfl rfl rfl rfl ?_;refine zae Tk Tryz.func126 rfl (fun c2=>?_) (fun c2=>?_)
  ·have c2:big=true:=c2;rw[if_pos c2];refine zag Tk (r:=ii 2) rfl rfl rfl trivial rfl rfl ?_;rfl
  have c2:big=false:=c2;rw[if_neg (zgU c2)];refine zag Tk (r:=ii 0) rfl rfl rfl trivial rfl rfl ?_;rfl
end Go.AI
namespace Go.AI
open Go.Proofs
inductive FrzB (nm:Nat) (d:I):List D→List D→Prop
 |nil:FrzB nm d [] []
 |i {x:I} {l m:List D}:FrzB nm d l m→FrzB nm d (.i x::l) (.i x::m)
 |f {k:FuncId} {l m:List D}:FrzB nm d l m→FrzB nm d (.fn (.func k) [] []::l) (.fn (.func k) [] []::m)
 |osl {l m:List D}:FrzB nm d l m→FrzB nm d (.osl 0 nm::l) (.i d::m)
theorem FrzB.rep {K K':Kn} {ρ:Nat→Nat→Loc} {sh sh':Nat→Nat→Option Sh} {nm es n:Nat} {xs:List (List I)} (hle:K.le K') (hs:sh 0 nm=some (.arr es n)) (hr:Rep K' (.slice (ρ 0 nm).base n (ρ 0 nm).cap) (.sl es n xs)) :
  ∀{a b:List D},FrzB nm (.sl es n xs) a b→∀{vs:List Value},RepDL K ρ sh vs a→RepDL K' ρ sh' vs b:=by
 intro a b h
 induction h with
 |nil=>
  intro vs r
  cases r
  exact .nil
 |i _ ih=>
  intro vs r
  cases r with
  |cons r rs=>cases r with
   |i r=>exact .cons (.i (r.mono hle)) (ih rs)
 |f _ ih=>
  intro vs r
  cases r with
  |cons r rs=>cases r with
   |fn h1 h2=>
    cases h1
    cases h2
    exact .cons (.fn .nil .nil) (ih rs)
 |osl _ ih=>
  intro vs r
  cases r with
  |cons r rs=>
   have:=zcO r hs;subst this;exact .cons (.i hr) (ih rs)
theorem zbt {c:Cx} {s:St} {o:Oper} {f:FuncId} {args dargs:List D} {res:D} {t nm ty es n:Nat} {xs:List (List I)} {wr:Bool} {H:Heap} {O:List Heap}
  (hspec:zao c.P f dargs [] res [] []) (hsh:Shut res) (ha:FrzB nm (.sl es n xs) args dargs) (ht:o.dst=some t) (hn:t<s.n) (hS:s.S=H::O) (hl:look H nm=some (.arr ty es n xs wr)) :
  Wp c o s f args {σ:=(t,res)::s.σ,S:=s.S,n:=s.n}:=by
 intro K ρ a w hi ⟨vs,hrun,hrep⟩ next Qe hnext
 have hh:=hi.h;rw[hS] at hh hrep;obtain⟨K',hle,hF⟩:=hh.freeze hl;have hown:=hF.own 0 nm (.arr ty es n xs false) (by simp[zab,zac]);have hrd:RepDL K' ρ (shape []) vs dargs:=FrzB.rep hle (by simp[shape,zab,hl,Ob.sh]) (zcG hown) ha hrep;have hE:HInv {K0:=K',ρ0:=fun d=>ρ (d+1),w0:=w,pr:=fun b=>b<w.heap.size,lt:=fun _ h=>h} K' ρ [] w:=
  ⟨hF.holds,fun _ _ _ e=>by simp[zab] at e,fun _ _ _ _ _ _ e=>by simp[zab] at e,Nat.le_refl _,fun _ _ _=>rfl,fun _ _ e=>by simp[zab] at e,fun _=>rfl,K'.le_refl,fun _ _ _ h=>.inl h,⟨rfl,rfl,rfl⟩⟩
 have fin:∀v w',(∃K2 ρ2,HInv (.of K' ρ w) K2 ρ2 ([]::[]) w'∧RepD K2 ρ2 (shape ([]::[])) v res)→next (a.put o.dst v) w':=by
  intro v w' ⟨K2,ρ2,h1,h2⟩;have hold:∀b,b<w.heap.size→w'.heap[b]? = w.heap[b]?:=fun b hb=>h1.old b hb fun d n ob e=>by simp[zab] at e
  have hg:Grow K ρ s.S w [] K ρ w':=by
   refine⟨K.le_refl,fun _ _ _ h=>.inl h,h1.size,hold,h1.rest,fun _ _ _=>rfl,fun b o x hx=>?_,fun _ _ h=>by simp[look] at h,fun _ _ _ _ h=>by simp[look] at h⟩;have h3:=hh.holds _ _ _ hx;have hb:b<w.heap.size:=by
    rcases Nat.lt_or_ge b w.heap.size with h|h
    ·exact h
    ·rw[hh.K_fresh h] at hx;cases hx
   rw[World.cell?,hold b hb];exact h3
  have hi0:=hi.h;obtain⟨hI,hst⟩:=HInv.grow (S:=s.S) hS hi0 (fun _ _ _ e=>e) (fun _ h=>by simp[look] at h) hg;have e0:addS s.S []=s.S:=by rw[hS];rfl
  rw[e0] at hI hst;refine hnext v w' K ρ ?_;rw[ht];refine⟨hI,hi.defers,by simp[Act.put];exact hi.size,fun t' d' e'=>?_⟩;rw[zdn (by rw[hi.size];exact hn)];simp only[zac] at e'
  split at e'
  ·rename_i e2;simp only[Option.some.injEq] at e';subst e';rw[if_pos e2];exact hsh _ _ _ _ _ _ _ h2
  ·rename_i e2;rw[if_neg e2];exact hi.slots _ _ e'
 rcases hspec _ K' ρ w vs hE hrd with ⟨h1,h2⟩|⟨v,w',h1,h2⟩
 ·rw[h1] at hrun;simp only[Oper.wp,hrun,Oper.upon];refine h2.mono ?_;rintro e w' ⟨v,rfl,hR⟩;exact fin v w' hR
 ·rw[h1] at hrun;simp only[Oper.wp,hrun,Oper.upon];exact fin v w' h2
end Go.AI
namespace Go.AI
def Ob.ren (a b:Nat):Ob→Ob
 |.box cs=>.box (D.rens a b cs)
 |.tb T cs=>.tb T (D.rens a b cs)
 |.arr ty es n xs wr=>.arr ty es n xs wr
 |.mp k m=>.mp k m
theorem Ob.ren_sh (a b:Nat) (o:Ob):(o.ren a b).sh=o.sh:=by cases o<;>rfl
theorem zqk {a b:Nat} {l:Loc} {o:Ob}:zaA l (o.ren a b)↔zaA l o:=by cases o<;>exact Iff.rfl
def renB (a b:Nat):Heap→Heap
 |[]=>[]
 |(k,o)::r=>(renN a b k,o.ren a b)::renB a b r
theorem zj7 {a b n:Nat} {o:Ob}:∀{H:Heap},look H b=none→look (renB a b H) n=some o→∃n0 o0,n=renN a b n0∧look H n0=some o0∧o=o0.ren a b
 |[],_,h=>by simp[renB,look] at h
 |(k,x)::r,hb,h=>by
  rw[zac] at hb
  split at hb
  ·cases hb
  ·rename_i hkb;simp only[renB] at h;rw[zac] at h
   split at h
   ·rename_i e;simp only[Option.some.injEq] at h;exact⟨k,x,e.symm,by rw[zac,if_pos rfl],h.symm⟩
   ·rename_i e;obtain⟨n0,o0,h1,h2,h3⟩:=zj7 hb h;refine⟨n0,o0,h1,?_,h3⟩;rw[zac,if_neg]
    ·exact h2
    ·intro e2;subst e2;exact e h1.symm
theorem zh1 {a b n0:Nat} {o:Ob}:∀{H:Heap},look H b=none→look H n0=some o→look (renB a b H) (renN a b n0)=some (o.ren a b)
 |[],_,h=>by simp[look] at h
 |(k,x)::r,hb,h=>by
  rw[zac] at hb
  split at hb
  ·cases hb
  ·rename_i hkb;rw[zac] at h;simp only[renB];rw[zac]
   split at h
   ·rename_i e;subst e;rw[if_pos rfl];simp only[Option.some.injEq] at h;rw[h]
   ·rename_i e;rw[if_neg]
    ·exact zh1 hb h
    ·intro e2
     by_cases h1:k=a
     ·subst h1;rw[zdd,zdO (Ne.symm e)] at e2;subst e2;rw[hb] at h;cases h
     ·rw[zdO h1] at e2
      by_cases h2:n0=a
      ·subst h2;rw[zdd] at e2;exact hkb e2
      ·rw[zdO h2] at e2;exact e e2
section
variable {c:Cx} {s:St} {H:Heap} {O:List Heap}
theorem zwv (a b:Nat) (hS:s.S=H::O) (hb:look H b=none):Wk c s {σ:=renσ a b s.σ,S:=renB a b H::O,n:=s.n}:=by
 intro K ρ act w hi;have hh:=hi.h;rw[hS] at hh
 let ρ':Nat→Nat→Loc:=upd ρ b (ρ 0 a)
 have hρ:∀n0 o,look H n0=some o→ρ' 0 (renN a b n0)=ρ 0 n0:=by
  intro n0 o h
  by_cases h1:n0=a
  ·subst h1;rw[zdd];exact zaX _ _ _
  ·rw[zdO h1];exact zaS _ _ _ (.inr fun e=>by subst e;rw[hb] at h;cases h)
 have r1:∀d n,ρ' (d+1) n=ρ (d+1) n:=fun d n=>zaS _ _ _ (.inl (by omega));have hren:Ren a b ρ ρ' (shape (H::O)) (shape (renB a b H::O)):=by
  refine⟨fun n x e=>?_,fun d n x e=>⟨by simpa [shape,zab] using e,r1 d n⟩⟩;simp only[shape,zab,List.getElem?_cons_zero] at e ⊢
  cases hl:look H n with
  |none=>simp[hl] at e
  |some o=>
   rw[zh1 hb hl];refine⟨?_,hρ _ _ hl⟩;simp only[hl,Option.map_some] at e ⊢;rw[Ob.ren_sh];exact e
 have hmv:Moves (fun _=>false) K K ρ ρ' (shape (H::O)) (shape (renB a b H::O)):=⟨K.le_refl,fun _ _ h=>(by cases h),hren.s⟩;have hcase:∀d n o,zab (renB a b H::O) d n=some o→∃n0 o0,zab (H::O) d n0=some o0∧ρ' d n=ρ d n0∧(d=0→n=renN a b n0∧o=o0.ren a b)∧(d≠0→n=n0∧o=o0)∧(∀l,zaA l o↔zaA l o0):=by
  intro d n o e
  cases d with
  |zero=>
   obtain⟨n0,o0,rfl,h2,rfl⟩:=zj7 hb (by simpa [zab] using e);exact⟨n0,o0,by simpa [zab] using h2,hρ _ _ h2,fun _=>⟨rfl,rfl⟩,fun h=>absurd rfl h,fun l=>zqk⟩
  |succ d=>exact⟨n,o,by simpa [zab] using e,r1 _ _,fun h=>absurd h (Nat.succ_ne_zero d),fun _=>⟨rfl,rfl⟩,fun l=>Iff.rfl⟩
 have e0:∀f:Nat→Nat→Loc,(fun d n=>f (0+d) n)=f:=by intro f;funext d n;rw[Nat.zero_add]
 refine⟨K,ρ',⟨hh.holds,?_,?_,hh.size,?_,?_,?_,hh.Kle,hh.Knew,hh.rest⟩,hi.defers,hi.size,fun t d e=>?_⟩
 ·intro d n o e;obtain⟨n0,o0,h1,h2,h3,h4,_⟩:=hcase d n o e;have h0:=hh.own _ _ _ h1;rw[h2]
  cases d with
  |zero=>
   obtain⟨rfl,rfl⟩:=h3 rfl;rw[e0] at h0 ⊢
   cases o0 with
   |box cs=>
    obtain⟨c',T,q1,q2,q3⟩:=h0;exact⟨c',T,q1,RepDL.ren hren q2,q3⟩
   |tb T cs=>
    obtain⟨c',q1,q2,q3⟩:=h0;exact⟨c',q1,RepDL.ren hren q2,q3⟩
   |arr=>exact h0
   |mp=>exact h0
  |succ d=>
   obtain⟨rfl,rfl⟩:=h4 (Nat.succ_ne_zero d);have e1:(fun d' n=>ρ' (d+1+d') n)=fun d' n=>ρ (d+1+d') n:=by
    funext d' n;rw[show d+1+d'=(d+d')+1 by omega,r1]
   rw[e1];simpa using h0
 ·intro d n o d2 n2 o2 e e2 b1 b2 hbe;obtain⟨m1,p1,a1,a2,a3,a4,a5⟩:=hcase d n o e;obtain⟨m2,p2,c1,c2,c3,c4,c5⟩:=hcase d2 n2 o2 e2;rw[a2] at b1 hbe;rw[c2] at b2 hbe;obtain⟨rfl,rfl⟩:=hh.inj _ _ _ _ _ _ a1 c1 ((a5 _).1 b1) ((c5 _).1 b2) hbe;refine⟨rfl,?_⟩
  by_cases h:d=0
  ·rw[(a3 h).1,(c3 h).1]
  ·rw[(a4 h).1,(c4 h).1]
 ·intro b' hb' hno;refine hh.old b' hb' fun d n o e hbk=>?_;have:=hno d n o (by simpa [zab] using e) (by rw[r1];exact hbk);rwa [r1] at this
 ·intro n o e hbk;obtain⟨n0,o0,h1,h2,_,_,h5⟩:=hcase 0 n o e;rw[h2] at hbk ⊢;exact hh.loc _ _ h1 ((h5 _).1 hbk)
 ·intro d;funext n;rw[r1,hh.outer]
 ·simp only[ze8] at e
  cases hl:look s.σ t with
  |none=>simp[hl] at e
  |some d0=>
   simp only[hl,Option.map_some,Option.some.injEq] at e;subst e;have:=hi.slots _ _ hl;rw[hS] at this;exact this.ren hren
end
end Go.AI
namespace Go.AI
open Go.Proofs
set_option maxRecDepth 20000
abbrev oss (l:List ByteArray):Ob:=.arr 9 1 l.length (l.map fun s=>[strI s]) true
abbrev plcD (p:Plc×Int):D:=.tup [.agg [ii p.1.1,ii p.1.2],ii p.2]
abbrev plcN:Ob:=.box [ii 0,ii 0]
structure mdlOk (m:Mdl):Prop extends szOk m where
 nm:m.name.size≤zar
 evn:∀x∈m.evs,x.name.size≤zar
 tpk:∀x∈m.tpls,tplOk x
 cok:∀x∈m.comps,insOk x
 rqk:∀x∈m.reqs,insOk x
 exk:∀x∈m.excs,x.name.size≤zar∧x.locals.length≤1000000
 cnk:∀x∈m.cons,x.name.size≤zar∧x.terms.length≤1000000
def chkT (m:Mdl):Plc×Int:=if m.tpls.length>16 then ((2,16),3) else plc 2 (za6 Tpl.name tplE [] m.tpls 0) ((0,0),0) id
def chkI (m:Mdl):Plc×Int:=
 if m.comps.length=0 then ((3,0),12) else if m.comps.length>8 then ((3,8),3) else if m.comps.length+m.reqs.length>12 then ((4,12-(m.comps.length:Int)),3) else
 plc 3 (za6 Ins.name (insE m) [] m.comps 0) (plc 4 (za6 Ins.name (reqE m) (m.comps.map (·.name)) m.reqs 0) ((0,0),0) id) id
def chkC (m:Mdl):Plc×Int:=
 if m.excs.length>32 then ((5,32),3) else plc 5 (za6 NEx.name (excE m) [] m.excs 0) (if m.cons.length>32 then ((6,32),3) else plc 6 (za6 NCn.name (conE m) [] m.cons 0) ((0,0),0) id) id
theorem za9 (b:List ByteArray) (s:ByteArray):Ob.arr 9 1 (b.length+1) ((b.map fun s=>[strI s])++[[strI s]]) true=oss (b++[s]):=by simp[oss]
theorem zxc (b c:List ByteArray):Ob.arr 9 1 (b.length+c.length) ((b.map fun s=>[strI s])++(c.map fun s=>[strI s])) true=oss (b++c):=by simp[oss]
theorem zfa (O:List Heap) (b:List ByteArray) (s:ByteArray) (hl:b.length≤1000000) (hs:s.size≤zar):zao Tryz.prog 119 [.i (.sl 1 (b.length+1) ((b.map fun s=>[strI s])++[[strI s]]))] O (ii (nmE b s)) [] O:=by
 have e:ssD (b++[s])=.i (.sl 1 (b.length+1) ((b.map fun s=>[strI s])++[[strI s]])):=by simp
 rw[←e];exact zxw O b s hl hs
theorem zf8 (O:List Heap) (m:Mdl) (hm:mdlOk m):zao Tryz.prog 47 [mdlD m] O (plcD (chkT m)) [] O:=by
 have hlt:=hm.tp;have hk:=hm.tpk;unfold chkT;generalize hR:za6 Tpl.name tplE [] m.tpls 0=R;obtain⟨nm,evs,l,comps,reqs,excs,cons⟩:=m;simp only at hlt hk hR ⊢;refine zaM [200027] Tk Tryz.func47 rfl Tryz.call47 Tryz.ntmps47 (Nat.le_of_ble_eq_true rfl) fun E=>?_;refine zai Tk Tryz.func47 ?_;refine zae Tk Tryz.func47 rfl (fun c1=>?_) (fun c1=>?_)
 ·have c1:l.length>16:=by have:(l.length:Int)>16:=of_decide_eq_true c1;omega
  rw[if_pos c1];refine zag Tk (r:=plcD ((2,16),3)) rfl rfl rfl trivial rfl rfl ?_;rfl
 have c1:¬l.length>16:=by have:¬(l.length:Int)>16:=of_decide_eq_false c1;omega
 rw[if_neg c1];refine g_wk (zbn 4 25 9 1 rfl rfl rfl) ?_;refine zah ?_;refine zak (fun x:Nat×List ByteArray=>[(1,.own 0 1 0 0),(2,.own 0 2 0 0),(4,.osl 0 25),(14,.i (zbD l)),(15,ii l.length),(16,ii x.1)]) (fun x=>[(1,.box (mdlC ⟨nm,evs,l,comps,reqs,excs,cons⟩)),(2,plcN),(25,oss x.2)]) (fun _=>O) 39
  (fun x=>x.1≤l.length∧x.2.length=x.1∧za6 Tpl.name tplE x.2 (l.drop x.1) x.1=R) (fun x=>l.length-x.1) (0,[]) ⟨Nat.zero_le _,rfl,hR⟩ ⟨rfl,rfl,rfl,rfl,rfl,rfl,trivial⟩ rfl ⟨rfl,rfl,rfl,trivial⟩ rfl rfl ?_
 clear hR;rintro ⟨i,b⟩ ⟨hi,hb,hno⟩ ih;simp only at hi hb hno;refine zai Tk Tryz.func47 ?_;refine zae Tk Tryz.func47 rfl (fun g1=>?_) (fun g1=>?_)
 ·have g1:i<l.length:=by simpa using g1
  have gs:(l.map tplI)[(i:Int).toNat]? = some (tplI l[i]):=zan (f:=tplI) g1;have hxk:=hk l[i] (List.getElem_mem g1);rw[List.drop_eq_getElem_cons g1] at hno;simp only[za6] at hno;have hj1:ii (IntKind.i64.wrap ((i:Int)+1))=ii ((i+1:Nat):Int):=congrArg ii (zaC (n:=1000001) (by omega) (by decide));generalize l[i]=x at *;have h1:=zfa [] b x.name (by omega) hxk.nm;have h2:=fun O=>zf9 O x hxk;obtain⟨xn,xl,xe,xm⟩:=x;simp only at hno h1 h2;generalize nmE b xn=e1 at *;generalize tplE ⟨xn,xl,xe,xm⟩=e2 at *;refine zad Tk Tryz.func47 (by exact⟨by omega,by show (i:Int)<(l.length:Int);omega⟩) ?_;refine zap Tk Tryz.func47 (gs) ?_;refine zad Tk Tryz.func47 (by exact⟨by show (b.length+1)*16≤140737488355328;omega,by show b.length+1≤9223372036854775807;omega⟩) ?_;refine zb8 Tk Tryz.func47 rfl rfl rfl rfl (zbt h1 (zeq _) (.osl .nil) rfl (show 27<39 by decide) rfl rfl) ?_
  refine zae Tk Tryz.func47 rfl (fun c2=>?_) (fun c2=>?_)
  ·have c2:e1=0:=beqT c2;rw[if_neg (fun h=>h c2)] at hno;refine zaj Tk Tryz.func47 (h2 _) rfl rfl rfl rfl rfl ?_;refine zae Tk Tryz.func47 rfl (fun c3=>?_) (fun c3=>?_)
   ·have c3:e2≠0:=bneT c3;rw[if_pos c3] at hno;subst hno;refine zag Tk (r:=plcD ((2,i),e2)) rfl rfl rfl trivial rfl rfl ?_;rfl
   have c3:¬e2≠0:=fun h=>h (bneF c3);rw[if_neg c3] at hno;refine zah ?_;exact ih (i+1,b++[xn]) _ _ ⟨g1,by simp[hb],hno⟩ (by simp only;omega) ⟨rfl,rfl,rfl,rfl,rfl,hj1,trivial⟩ rfl ⟨rfl,rfl,congrArg some (za9 b xn),trivial⟩ rfl rfl
  have c2:e1≠0:=beqF c2;rw[if_pos c2] at hno;subst hno;refine zae Tk Tryz.func47 rfl (fun _=>?_) (fun h=>absurd h (by simpa using c2));refine zag Tk (r:=plcD ((2,i),e1)) rfl rfl rfl trivial rfl rfl ?_;rfl
 ·have g1:l.length≤i:=by simpa using g1
  rw[List.drop_eq_nil_of_le g1] at hno;have hno:none=R:=hno;subst hno;refine zag Tk (r:=plcD ((0,0),0)) rfl rfl rfl trivial rfl rfl ?_;rfl
end Go.AI
