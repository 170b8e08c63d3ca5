/- The layer of abstract runs, part 32. -/
import Derived.Test.YtnojpbbaohoadaaGreatDoorIbxZE
set_option linter.unusedSimpArgs false
set_option linter.unusedVariables false
set_option linter.all false
set_option maxHeartbeats 4000000
namespace Go.AI
open Go.Proofs
set_option maxRecDepth 20000
noncomputable def eqQ {α:Type} (a b:α):Bool:=@decide (a=b) (Classical.propDecidable _)
theorem za4 {α:Type} {a b:α} (h:a=b):eqQ a b=true:=@decide_eq_true _ (Classical.propDecidable _) h
theorem zaQ {α:Type} {a b:α} (h:a≠b):eqQ a b=false:=@decide_eq_false _ (Classical.propDecidable _) h
theorem zaY {α:Type} {a b:α}:eqQ a b=true↔a=b:=⟨fun h=>@of_decide_eq_true _ (Classical.propDecidable _) h,za4⟩
theorem zvB {α:Type} (a b:α):eqQ a b=eqQ b a:=by rw[Bool.eq_iff_iff,zaY,zaY];exact⟨Eq.symm,Eq.symm⟩
theorem zbn {α:Type} {l r:List α} {i:Nat} (h:∀j,j<i→l[j]? = r[j]?) (hi:l[i]? = r[i]?):∀j,j<i+1→l[j]? = r[j]?:=fun j hj=>by
 by_cases e:j=i
 ·subst e;exact hi
 ·exact h j (by omega)
theorem zbL {α:Type} {l r:List α} {i:Nat} (hn:l.length=r.length) (h:∀j,j<i→l[j]? = r[j]?) (hi:l.length≤i):l=r:=List.ext_getElem? fun j=>by
 by_cases e:j<i
 ·exact h j e
 ·rw[List.getElem?_eq_none (by omega),List.getElem?_eq_none (by omega)]
theorem strQ {a b:ByteArray}:(a.toList==b.toList)=eqQ a b:=by rw[Bool.eq_iff_iff,zbe,zeZ,zaY]
theorem zfH {α:Type} {a b:α} {c:Bool} (h:c=eqQ a b) (h1:(!c)=true):a≠b:=fun e=>by rw[h,za4 e] at h1;cases h1
theorem zeO {α:Type} {a b:α} {c:Bool} (h:c=eqQ a b) (h1:(!c)=false):a=b:=by
 rw[h] at h1;exact zaY.1 (by simpa using h1)
theorem evtQ {a b:Evt}:(a.name.toList==b.name.toList&&(a.c==b.c&&(a.o==b.o&&(a.f==b.f&&(a.fault==b.fault&&true)))))=eqQ a b:=by
 rw[Bool.eq_iff_iff,zaY,strQ];obtain⟨a0,a1,a2,a3,a4⟩:=a;obtain⟨b0,b1,b2,b3,b4⟩:=b;simp[zaY]
theorem nlcQ {a b:NLc}:(a.1.toList==b.1.toList&&(a.2.toList==b.2.toList&&true))=eqQ a b:=by
 rw[Bool.eq_iff_iff,zaY,strQ,strQ];obtain⟨a0,a1⟩:=a;obtain⟨b0,b1⟩:=b;simp[zaY]
theorem ntmQ {a b:NTm}:(a.1.toList==b.1.toList&&(a.2==b.2&&true))=eqQ a b:=by
 rw[Bool.eq_iff_iff,zaY,strQ];obtain⟨a0,a1⟩:=a;obtain⟨b0,b1⟩:=b;simp[zaY]
theorem zhr (O:List Heap) (l r:List ByteArray) (hl:l.length≤zan):zao Tryz.prog 92 [.i (.sl 1 l.length (l.map (fun s:ByteArray=>[strI s]))),.i (.sl 1 r.length (r.map (fun s:ByteArray=>[strI s])))] O (bb (eqQ l r)) [] O:=by
 generalize hB:eqQ l r=B;refine zaa Tk Tryz.func92 rfl Tryz.call92 Tryz.ntmps92 (Nat.le_of_ble_eq_true rfl) fun E=>?_;refine zai Tk Tryz.func92 ?_;refine zad Tk Tryz.func92 rfl (fun c1=>?_) (fun c1=>?_)
 ·have c1:(l.length:Int)≠(r.length:Int):=bneT c1;have:B=false:=hB.symm.trans (zaQ fun e=>c1 (by rw[e]));subst this;refine zae Tk (r:=bb false) rfl rfl rfl trivial rfl rfl ?_;rfl
 have c1:(l.length:Int)=(r.length:Int):=bneF c1;have hn:l.length=r.length:=by omega
 refine zah ?_;refine zal (fun i:Nat=>[(0,.i (.sl 1 l.length (l.map (fun s:ByteArray=>[strI s])))),(1,.i (.sl 1 r.length (r.map (fun s:ByteArray=>[strI s])))),(12,ii l.length),(13,ii i)]) (fun _=>[]) (fun _=>O) 26
  (fun i=>i≤l.length∧∀j,j<i→l[j]? = r[j]?) (fun i=>l.length-i) 0 ⟨Nat.zero_le _,fun j hj=>absurd hj (Nat.not_lt_zero _)⟩ ⟨rfl,rfl,rfl,rfl,trivial⟩ rfl trivial rfl rfl ?_
 intro i hii ih;obtain⟨hi,hag⟩:i≤l.length∧∀j,j<i→l[j]? = r[j]?:=hii;refine zai Tk Tryz.func92 ?_;refine zad Tk Tryz.func92 rfl (fun g1=>?_) (fun g1=>?_);rotate_left
 ·have g1:l.length≤i:=by simpa using g1
  have:B=true:=hB.symm.trans (za4 (zbL hn hag g1));subst this;refine zae Tk (r:=bb true) rfl rfl rfl trivial rfl rfl ?_;rfl
 have g1:i<l.length:=by simpa using g1
 have g2:i<r.length:=by omega
 have gl:(l.map (fun s:ByteArray=>[strI s]))[(i:Int).toNat]? = some ((fun s:ByteArray=>[strI s]) l[i]):=zak (f:=(fun s:ByteArray=>[strI s])) g1;have gr:(r.map (fun s:ByteArray=>[strI s]))[(i:Int).toNat]? = some ((fun s:ByteArray=>[strI s]) r[i]):=zak (f:=(fun s:ByteArray=>[strI s])) g2;have hno:l[i]≠r[i]→B=false:=fun h=>hB.symm.trans (zaQ fun e=>h (by subst e;rfl));have hst:l[i]=r[i]→∀j,j<i+1→l[j]? = r[j]?:=fun h=>zbn hag (by rw[List.getElem?_eq_getElem g1,List.getElem?_eq_getElem g2,h]);have hi1:ii (IntKind.i64.wrap ((i:Int)+1))=ii ((i+1:Nat):Int):=congrArg ii (zaE (n:=zan) (by omega) (by decide));generalize l[i]=a at *;generalize r[i]=b at *;refine zat Tk Tryz.func92 zaA rfl ?_;refine zar Tk (by exact⟨by omega,by show (i:Int)<(l.length:Int);omega⟩) ?_;refine zax Tk (gl) ?_;refine zar Tk (by exact⟨by omega,by show (i:Int)<(r.length:Int);omega⟩) ?_;refine zax Tk (gr) ?_
 refine zaC Tk Tryz.func92 (by kernel_rfl) ?_;refine zad Tk Tryz.func92 rfl (fun c2=>?_) (fun c2=>?_)
 ·have c2:=hno (zfH strQ c2);subst c2;refine zae Tk (r:=bb false) rfl rfl rfl trivial rfl rfl ?_;rfl
 refine zah ?_;exact ih (i+1) _ _ ⟨g1,hst (zeO strQ c2)⟩ (by omega) ⟨rfl,rfl,rfl,hi1,trivial⟩ rfl trivial rfl rfl
theorem zdI (O:List Heap) (l r:List ByteArray) (hl:l.length≤zan):zao Tryz.prog 103 [.i (.sl 1 l.length (l.map (fun s:ByteArray=>[strI s]))),.i (.sl 1 r.length (r.map (fun s:ByteArray=>[strI s])))] O (bb (eqQ l r)) [] O:=by
 generalize hB:eqQ l r=B;refine zaa Tk Tryz.func103 rfl Tryz.call103 Tryz.ntmps103 (Nat.le_of_ble_eq_true rfl) fun E=>?_;refine zai Tk Tryz.func103 ?_;refine zad Tk Tryz.func103 rfl (fun c1=>?_) (fun c1=>?_)
 ·have c1:(l.length:Int)≠(r.length:Int):=bneT c1;have:B=false:=hB.symm.trans (zaQ fun e=>c1 (by rw[e]));subst this;refine zae Tk (r:=bb false) rfl rfl rfl trivial rfl rfl ?_;rfl
 have c1:(l.length:Int)=(r.length:Int):=bneF c1;have hn:l.length=r.length:=by omega
 refine zah ?_;refine zal (fun i:Nat=>[(0,.i (.sl 1 l.length (l.map (fun s:ByteArray=>[strI s])))),(1,.i (.sl 1 r.length (r.map (fun s:ByteArray=>[strI s])))),(5,ii i)]) (fun _=>[]) (fun _=>O) 26
  (fun i=>i≤l.length∧∀j,j<i→l[j]? = r[j]?) (fun i=>l.length-i) 0 ⟨Nat.zero_le _,fun j hj=>absurd hj (Nat.not_lt_zero _)⟩ ⟨rfl,rfl,rfl,trivial⟩ rfl trivial rfl rfl ?_
 intro i hii ih;obtain⟨hi,hag⟩:i≤l.length∧∀j,j<i→l[j]? = r[j]?:=hii;refine zai Tk Tryz.func103 ?_;refine zad Tk Tryz.func103 rfl (fun g1=>?_) (fun g1=>?_);rotate_left
 ·have g1:l.length≤i:=by simpa using g1
  have:B=true:=hB.symm.trans (za4 (zbL hn hag g1));subst this;refine zae Tk (r:=bb true) rfl rfl rfl trivial rfl rfl ?_;rfl
 have g1:i<l.length:=by simpa using g1
 have g2:i<r.length:=by omega
 have gl:(l.map (fun s:ByteArray=>[strI s]))[(i:Int).toNat]? = some ((fun s:ByteArray=>[strI s]) l[i]):=zak (f:=(fun s:ByteArray=>[strI s])) g1;have gr:(r.map (fun s:ByteArray=>[strI s]))[(i:Int).toNat]? = some ((fun s:ByteArray=>[strI s]) r[i]):=zak (f:=(fun s:ByteArray=>[strI s])) g2;have hno:l[i]≠r[i]→B=false:=fun h=>hB.symm.trans (zaQ fun e=>h (by subst e;rfl));have hst:l[i]=r[i]→∀j,j<i+1→l[j]? = r[j]?:=fun h=>zbn hag (by rw[List.getElem?_eq_getElem g1,List.getElem?_eq_getElem g2,h]);have hi1:ii (IntKind.i64.wrap ((i:Int)+1))=ii ((i+1:Nat):Int):=congrArg ii (zaE (n:=zan) (by omega) (by decide));generalize l[i]=a at *;generalize r[i]=b at *;refine zat Tk Tryz.func103 zaA rfl ?_;refine zar Tk (by exact⟨by omega,by show (i:Int)<(l.length:Int);omega⟩) ?_;refine zax Tk (gl) ?_;refine zar Tk (by exact⟨by omega,by show (i:Int)<(r.length:Int);omega⟩) ?_
 refine zax Tk (gr) ?_;refine zaC Tk Tryz.func103 (by kernel_rfl) ?_;refine zad Tk Tryz.func103 rfl (fun c2=>?_) (fun c2=>?_)
 ·have c2:=hno (zfH strQ c2);subst c2;refine zae Tk (r:=bb false) rfl rfl rfl trivial rfl rfl ?_;rfl
 refine zah ?_;exact ih (i+1) _ _ ⟨g1,hst (zeO strQ c2)⟩ (by omega) ⟨rfl,rfl,hi1,trivial⟩ rfl trivial rfl rfl
theorem zvG (O:List Heap) (l r:List Evt) (hl:l.length≤zan):zao Tryz.prog 89 [.i (.sl 5 l.length (l.map evtI)),.i (.sl 5 r.length (r.map evtI))] O (bb (eqQ l r)) [] O:=by
 generalize hB:eqQ l r=B;refine zaa Tk Tryz.func89 rfl Tryz.call89 Tryz.ntmps89 (Nat.le_of_ble_eq_true rfl) fun E=>?_;refine zai Tk Tryz.func89 ?_;refine zad Tk Tryz.func89 rfl (fun c1=>?_) (fun c1=>?_)
 ·have c1:(l.length:Int)≠(r.length:Int):=bneT c1;have:B=false:=hB.symm.trans (zaQ fun e=>c1 (by rw[e]));subst this;refine zae Tk (r:=bb false) rfl rfl rfl trivial rfl rfl ?_;rfl
 have c1:(l.length:Int)=(r.length:Int):=bneF c1;have hn:l.length=r.length:=by omega
 refine zah ?_;refine zal (fun i:Nat=>[(0,.i (.sl 5 l.length (l.map evtI))),(1,.i (.sl 5 r.length (r.map evtI))),(12,ii l.length),(13,ii i)]) (fun _=>[]) (fun _=>O) 26
  (fun i=>i≤l.length∧∀j,j<i→l[j]? = r[j]?) (fun i=>l.length-i) 0 ⟨Nat.zero_le _,fun j hj=>absurd hj (Nat.not_lt_zero _)⟩ ⟨rfl,rfl,rfl,rfl,trivial⟩ rfl trivial rfl rfl ?_
 intro i hii ih;obtain⟨hi,hag⟩:i≤l.length∧∀j,j<i→l[j]? = r[j]?:=hii;refine zai Tk Tryz.func89 ?_;refine zad Tk Tryz.func89 rfl (fun g1=>?_) (fun g1=>?_);rotate_left
 ·have g1:l.length≤i:=by simpa using g1
  have:B=true:=hB.symm.trans (za4 (zbL hn hag g1));subst this;refine zae Tk (r:=bb true) rfl rfl rfl trivial rfl rfl ?_;rfl
 have g1:i<l.length:=by simpa using g1
 have g2:i<r.length:=by omega
 have gl:(l.map evtI)[(i:Int).toNat]? = some (evtI l[i]):=zak (f:=evtI) g1;have gr:(r.map evtI)[(i:Int).toNat]? = some (evtI r[i]):=zak (f:=evtI) g2;have hno:l[i]≠r[i]→B=false:=fun h=>hB.symm.trans (zaQ fun e=>h (by subst e;rfl));have hst:l[i]=r[i]→∀j,j<i+1→l[j]? = r[j]?:=fun h=>zbn hag (by rw[List.getElem?_eq_getElem g1,List.getElem?_eq_getElem g2,h]);have hi1:ii (IntKind.i64.wrap ((i:Int)+1))=ii ((i+1:Nat):Int):=congrArg ii (zaE (n:=zan) (by omega) (by decide));generalize l[i]=a at *;generalize r[i]=b at *;obtain⟨a0,a1,a2,a3,a4⟩:=a;obtain⟨b0,b1,b2,b3,b4⟩:=b;refine zat Tk Tryz.func89 zaA rfl ?_;refine zar Tk (by exact⟨by omega,by show (i:Int)<(l.length:Int);omega⟩) ?_;refine zax Tk (gl) ?_;refine zar Tk (by exact⟨by omega,by show (i:Int)<(r.length:Int);omega⟩) ?_;refine zax Tk (gr) ?_;refine zaC Tk Tryz.func89 (by kernel_rfl) ?_
 refine zad Tk Tryz.func89 rfl (fun c2=>?_) (fun c2=>?_)
 ·have c2:=hno (zfH evtQ c2);subst c2;refine zae Tk (r:=bb false) rfl rfl rfl trivial rfl rfl ?_;rfl
 refine zah ?_;exact ih (i+1) _ _ ⟨g1,hst (zeO evtQ c2)⟩ (by omega) ⟨rfl,rfl,rfl,hi1,trivial⟩ rfl trivial rfl rfl
theorem zvC (O:List Heap) (l r:List NLc) (hl:l.length≤zan):zao Tryz.prog 98 [.i (.sl 2 l.length (l.map nlcI)),.i (.sl 2 r.length (r.map nlcI))] O (bb (eqQ l r)) [] O:=by
 generalize hB:eqQ l r=B;refine zaa Tk Tryz.func98 rfl Tryz.call98 Tryz.ntmps98 (Nat.le_of_ble_eq_true rfl) fun E=>?_;refine zai Tk Tryz.func98 ?_;refine zad Tk Tryz.func98 rfl (fun c1=>?_) (fun c1=>?_)
 ·have c1:(l.length:Int)≠(r.length:Int):=bneT c1;have:B=false:=hB.symm.trans (zaQ fun e=>c1 (by rw[e]));subst this;refine zae Tk (r:=bb false) rfl rfl rfl trivial rfl rfl ?_;rfl
 have c1:(l.length:Int)=(r.length:Int):=bneF c1;have hn:l.length=r.length:=by omega
 refine zah ?_;refine zal (fun i:Nat=>[(0,.i (.sl 2 l.length (l.map nlcI))),(1,.i (.sl 2 r.length (r.map nlcI))),(12,ii l.length),(13,ii i)]) (fun _=>[]) (fun _=>O) 26
  (fun i=>i≤l.length∧∀j,j<i→l[j]? = r[j]?) (fun i=>l.length-i) 0 ⟨Nat.zero_le _,fun j hj=>absurd hj (Nat.not_lt_zero _)⟩ ⟨rfl,rfl,rfl,rfl,trivial⟩ rfl trivial rfl rfl ?_
 intro i hii ih;obtain⟨hi,hag⟩:i≤l.length∧∀j,j<i→l[j]? = r[j]?:=hii;refine zai Tk Tryz.func98 ?_;refine zad Tk Tryz.func98 rfl (fun g1=>?_) (fun g1=>?_);rotate_left
 ·have g1:l.length≤i:=by simpa using g1
  have:B=true:=hB.symm.trans (za4 (zbL hn hag g1));subst this;refine zae Tk (r:=bb true) rfl rfl rfl trivial rfl rfl ?_;rfl
 have g1:i<l.length:=by simpa using g1
 have g2:i<r.length:=by omega
 have gl:(l.map nlcI)[(i:Int).toNat]? = some (nlcI l[i]):=zak (f:=nlcI) g1;have gr:(r.map nlcI)[(i:Int).toNat]? = some (nlcI r[i]):=zak (f:=nlcI) g2;have hno:l[i]≠r[i]→B=false:=fun h=>hB.symm.trans (zaQ fun e=>h (by subst e;rfl));have hst:l[i]=r[i]→∀j,j<i+1→l[j]? = r[j]?:=fun h=>zbn hag (by rw[List.getElem?_eq_getElem g1,List.getElem?_eq_getElem g2,h]);have hi1:ii (IntKind.i64.wrap ((i:Int)+1))=ii ((i+1:Nat):Int):=congrArg ii (zaE (n:=zan) (by omega) (by decide));generalize l[i]=a at *;generalize r[i]=b at *;obtain⟨a0,a1⟩:=a;obtain⟨b0,b1⟩:=b;refine zat Tk Tryz.func98 zaA rfl ?_;refine zar Tk (by exact⟨by omega,by show (i:Int)<(l.length:Int);omega⟩) ?_;refine zax Tk (gl) ?_;refine zar Tk (by exact⟨by omega,by show (i:Int)<(r.length:Int);omega⟩) ?_;refine zax Tk (gr) ?_;refine zaC Tk Tryz.func98 (by kernel_rfl) ?_
 refine zad Tk Tryz.func98 rfl (fun c2=>?_) (fun c2=>?_)
 ·have c2:=hno (zfH nlcQ c2);subst c2;refine zae Tk (r:=bb false) rfl rfl rfl trivial rfl rfl ?_;rfl
 refine zah ?_;exact ih (i+1) _ _ ⟨g1,hst (zeO nlcQ c2)⟩ (by omega) ⟨rfl,rfl,rfl,hi1,trivial⟩ rfl trivial rfl rfl
theorem zsU (O:List Heap) (l r:List NTm) (hl:l.length≤zan):zao Tryz.prog 101 [.i (.sl 2 l.length (l.map ntmI)),.i (.sl 2 r.length (r.map ntmI))] O (bb (eqQ l r)) [] O:=by
 generalize hB:eqQ l r=B;refine zaa Tk Tryz.func101 rfl Tryz.call101 Tryz.ntmps101 (Nat.le_of_ble_eq_true rfl) fun E=>?_;refine zai Tk Tryz.func101 ?_;refine zad Tk Tryz.func101 rfl (fun c1=>?_) (fun c1=>?_)
 ·have c1:(l.length:Int)≠(r.length:Int):=bneT c1;have:B=false:=hB.symm.trans (zaQ fun e=>c1 (by rw[e]));subst this;refine zae Tk (r:=bb false) rfl rfl rfl trivial rfl rfl ?_;rfl
 have c1:(l.length:Int)=(r.length:Int):=bneF c1;have hn:l.length=r.length:=by omega
 refine zah ?_;refine zal (fun i:Nat=>[(0,.i (.sl 2 l.length (l.map ntmI))),(1,.i (.sl 2 r.length (r.map ntmI))),(12,ii l.length),(13,ii i)]) (fun _=>[]) (fun _=>O) 26
  (fun i=>i≤l.length∧∀j,j<i→l[j]? = r[j]?) (fun i=>l.length-i) 0 ⟨Nat.zero_le _,fun j hj=>absurd hj (Nat.not_lt_zero _)⟩ ⟨rfl,rfl,rfl,rfl,trivial⟩ rfl trivial rfl rfl ?_
 intro i hii ih;obtain⟨hi,hag⟩:i≤l.length∧∀j,j<i→l[j]? = r[j]?:=hii;refine zai Tk Tryz.func101 ?_;refine zad Tk Tryz.func101 rfl (fun g1=>?_) (fun g1=>?_);rotate_left
 ·have g1:l.length≤i:=by simpa using g1
  have:B=true:=hB.symm.trans (za4 (zbL hn hag g1));subst this;refine zae Tk (r:=bb true) rfl rfl rfl trivial rfl rfl ?_;rfl
 have g1:i<l.length:=by simpa using g1
 have g2:i<r.length:=by omega
 have gl:(l.map ntmI)[(i:Int).toNat]? = some (ntmI l[i]):=zak (f:=ntmI) g1;have gr:(r.map ntmI)[(i:Int).toNat]? = some (ntmI r[i]):=zak (f:=ntmI) g2;have hno:l[i]≠r[i]→B=false:=fun h=>hB.symm.trans (zaQ fun e=>h (by subst e;rfl));have hst:l[i]=r[i]→∀j,j<i+1→l[j]? = r[j]?:=fun h=>zbn hag (by rw[List.getElem?_eq_getElem g1,List.getElem?_eq_getElem g2,h]);have hi1:ii (IntKind.i64.wrap ((i:Int)+1))=ii ((i+1:Nat):Int):=congrArg ii (zaE (n:=zan) (by omega) (by decide));generalize l[i]=a at *;generalize r[i]=b at *;obtain⟨a0,a1⟩:=a;obtain⟨b0,b1⟩:=b;refine zat Tk Tryz.func101 zaA rfl ?_;refine zar Tk (by exact⟨by omega,by show (i:Int)<(l.length:Int);omega⟩) ?_;refine zax Tk (gl) ?_;refine zar Tk (by exact⟨by omega,by show (i:Int)<(r.length:Int);omega⟩) ?_;refine zax Tk (gr) ?_;refine zaC Tk Tryz.func101 (by kernel_rfl) ?_
 refine zad Tk Tryz.func101 rfl (fun c2=>?_) (fun c2=>?_)
 ·have c2:=hno (zfH ntmQ c2);subst c2;refine zae Tk (r:=bb false) rfl rfl rfl trivial rfl rfl ?_;rfl
 refine zah ?_;exact ih (i+1) _ _ ⟨g1,hst (zeO ntmQ c2)⟩ (by omega) ⟨rfl,rfl,rfl,hi1,trivial⟩ rfl trivial rfl rfl
abbrev zuV (x:NEx):D:=.agg [.i (strI x.name),.i (.sl 2 x.locals.length (x.locals.map nlcI))]
abbrev zuW (x:NCn):D:=.agg [.i (strI x.name),.i (.sl 2 x.terms.length (x.terms.map ntmI)),ii x.bound]
theorem znS (O:List Heap) (l r:List Ins) (hl:l.length≤zan) (hp:∀(i:Nat) a b,l[i]? = some a→r[i]? = some b→∀O,zao Tryz.prog 95 [insD a,insD b] O (bb (eqQ a b)) [] O):zao Tryz.prog 94 [.i (.sl 3 l.length (l.map insI)),.i (.sl 3 r.length (r.map insI)),.fn (.func 95) [] []] O (bb (eqQ l r)) [] O:=by
 generalize hB:eqQ l r=B;refine zaa Tk Tryz.func94 rfl Tryz.call94 Tryz.ntmps94 (Nat.le_of_ble_eq_true rfl) fun E=>?_;refine zai Tk Tryz.func94 ?_;refine zad Tk Tryz.func94 rfl (fun c1=>?_) (fun c1=>?_)
 ·have c1:(l.length:Int)≠(r.length:Int):=bneT c1;have:B=false:=hB.symm.trans (zaQ fun e=>c1 (by rw[e]));subst this;refine zae Tk (r:=bb false) rfl rfl rfl trivial rfl rfl ?_;rfl
 have c1:(l.length:Int)=(r.length:Int):=bneF c1;have hn:l.length=r.length:=by omega
 refine zah ?_;refine zal (fun i:Nat=>[(1,.i (.sl 3 r.length (r.map insI))),(2,.fn (.func 95) [] []),(15,.i (.sl 3 l.length (l.map insI))),(16,ii l.length),(17,ii i)]) (fun _=>[]) (fun _=>O) 32
  (fun i=>i≤l.length∧∀j,j<i→l[j]? = r[j]?) (fun i=>l.length-i) 0 ⟨Nat.zero_le _,fun j hj=>absurd hj (Nat.not_lt_zero _)⟩ ⟨rfl,rfl,rfl,rfl,rfl,trivial⟩ rfl trivial rfl rfl ?_
 intro i hii ih;obtain⟨hi,hag⟩:i≤l.length∧∀j,j<i→l[j]? = r[j]?:=hii;refine zai Tk Tryz.func94 ?_;refine zad Tk Tryz.func94 rfl (fun g1=>?_) (fun g1=>?_);rotate_left
 ·have g1:l.length≤i:=by simpa using g1
  have:B=true:=hB.symm.trans (za4 (zbL hn hag g1));subst this;refine zae Tk (r:=bb true) rfl rfl rfl trivial rfl rfl ?_;rfl
 have g1:i<l.length:=by simpa using g1
 have g2:i<r.length:=by omega
 have gl:(l.map insI)[(i:Int).toNat]? = some (insI l[i]):=zak (f:=insI) g1;have gr:(r.map insI)[(i:Int).toNat]? = some (insI r[i]):=zak (f:=insI) g2;have hno:l[i]≠r[i]→B=false:=fun h=>hB.symm.trans (zaQ fun e=>h (by subst e;rfl));have hst:l[i]=r[i]→∀j,j<i+1→l[j]? = r[j]?:=fun h=>zbn hag (by rw[List.getElem?_eq_getElem g1,List.getElem?_eq_getElem g2,h]);have hi1:ii (IntKind.i64.wrap ((i:Int)+1))=ii ((i+1:Nat):Int):=congrArg ii (zaE (n:=zan) (by omega) (by decide));have hpi:=hp i _ _ (List.getElem?_eq_getElem g1) (List.getElem?_eq_getElem g2);clear hp;generalize l[i]=a at *;generalize r[i]=b at *;refine zaf Tk Tryz.func94 (by exact⟨by omega,by show (i:Int)<(l.length:Int);omega⟩) ?_;refine zaq Tk Tryz.func94 (gl) ?_;refine zaf Tk Tryz.func94 (by exact⟨by omega,by show (i:Int)<(r.length:Int);omega⟩) ?_;refine zaq Tk Tryz.func94 (gr) ?_
 refine zaj Tk Tryz.func94 (hpi _) rfl rfl rfl rfl rfl ?_;refine zad Tk Tryz.func94 rfl (fun c2=>?_) (fun c2=>?_)
 ·have c2:=hno (zfH rfl c2);subst c2;refine zae Tk (r:=bb false) rfl rfl rfl trivial rfl rfl ?_;rfl
 refine zah ?_;exact ih (i+1) _ _ ⟨g1,hst (zeO rfl c2)⟩ (by omega) ⟨rfl,rfl,rfl,rfl,hi1,trivial⟩ rfl trivial rfl rfl
theorem zvx (O:List Heap) (l r:List NEx) (hl:l.length≤zan) (hp:∀(i:Nat) a b,l[i]? = some a→r[i]? = some b→∀O,zao Tryz.prog 97 [zuV a,zuV b] O (bb (eqQ a b)) [] O):zao Tryz.prog 96 [.i (.sl 2 l.length (l.map nexI)),.i (.sl 2 r.length (r.map nexI)),.fn (.func 97) [] []] O (bb (eqQ l r)) [] O:=by
 generalize hB:eqQ l r=B;refine zaa Tk Tryz.func96 rfl Tryz.call96 Tryz.ntmps96 (Nat.le_of_ble_eq_true rfl) fun E=>?_;refine zai Tk Tryz.func96 ?_;refine zad Tk Tryz.func96 rfl (fun c1=>?_) (fun c1=>?_)
 ·have c1:(l.length:Int)≠(r.length:Int):=bneT c1;have:B=false:=hB.symm.trans (zaQ fun e=>c1 (by rw[e]));subst this;refine zae Tk (r:=bb false) rfl rfl rfl trivial rfl rfl ?_;rfl
 have c1:(l.length:Int)=(r.length:Int):=bneF c1;have hn:l.length=r.length:=by omega
 refine zah ?_;refine zal (fun i:Nat=>[(1,.i (.sl 2 r.length (r.map nexI))),(2,.fn (.func 97) [] []),(15,.i (.sl 2 l.length (l.map nexI))),(16,ii l.length),(17,ii i)]) (fun _=>[]) (fun _=>O) 32
  (fun i=>i≤l.length∧∀j,j<i→l[j]? = r[j]?) (fun i=>l.length-i) 0 ⟨Nat.zero_le _,fun j hj=>absurd hj (Nat.not_lt_zero _)⟩ ⟨rfl,rfl,rfl,rfl,rfl,trivial⟩ rfl trivial rfl rfl ?_
 intro i hii ih;obtain⟨hi,hag⟩:i≤l.length∧∀j,j<i→l[j]? = r[j]?:=hii;refine zai Tk Tryz.func96 ?_;refine zad Tk Tryz.func96 rfl (fun g1=>?_) (fun g1=>?_);rotate_left
 ·have g1:l.length≤i:=by simpa using g1
  have:B=true:=hB.symm.trans (za4 (zbL hn hag g1));subst this;refine zae Tk (r:=bb true) rfl rfl rfl trivial rfl rfl ?_;rfl
 have g1:i<l.length:=by simpa using g1
 have g2:i<r.length:=by omega
 have gl:(l.map nexI)[(i:Int).toNat]? = some (nexI l[i]):=zak (f:=nexI) g1;have gr:(r.map nexI)[(i:Int).toNat]? = some (nexI r[i]):=zak (f:=nexI) g2;have hno:l[i]≠r[i]→B=false:=fun h=>hB.symm.trans (zaQ fun e=>h (by subst e;rfl));have hst:l[i]=r[i]→∀j,j<i+1→l[j]? = r[j]?:=fun h=>zbn hag (by rw[List.getElem?_eq_getElem g1,List.getElem?_eq_getElem g2,h]);have hi1:ii (IntKind.i64.wrap ((i:Int)+1))=ii ((i+1:Nat):Int):=congrArg ii (zaE (n:=zan) (by omega) (by decide));have hpi:=hp i _ _ (List.getElem?_eq_getElem g1) (List.getElem?_eq_getElem g2);clear hp;generalize l[i]=a at *;generalize r[i]=b at *;refine zaf Tk Tryz.func96 (by exact⟨by omega,by show (i:Int)<(l.length:Int);omega⟩) ?_;refine zaq Tk Tryz.func96 (gl) ?_;refine zaf Tk Tryz.func96 (by exact⟨by omega,by show (i:Int)<(r.length:Int);omega⟩) ?_;refine zaq Tk Tryz.func96 (gr) ?_
 refine zaj Tk Tryz.func96 (hpi _) rfl rfl rfl rfl rfl ?_;refine zad Tk Tryz.func96 rfl (fun c2=>?_) (fun c2=>?_)
 ·have c2:=hno (zfH rfl c2);subst c2;refine zae Tk (r:=bb false) rfl rfl rfl trivial rfl rfl ?_;rfl
 refine zah ?_;exact ih (i+1) _ _ ⟨g1,hst (zeO rfl c2)⟩ (by omega) ⟨rfl,rfl,rfl,rfl,hi1,trivial⟩ rfl trivial rfl rfl
theorem zvy (O:List Heap) (l r:List NCn) (hl:l.length≤zan) (hp:∀(i:Nat) a b,l[i]? = some a→r[i]? = some b→∀O,zao Tryz.prog 100 [zuW a,zuW b] O (bb (eqQ a b)) [] O):zao Tryz.prog 99 [.i (.sl 3 l.length (l.map ncnI)),.i (.sl 3 r.length (r.map ncnI)),.fn (.func 100) [] []] O (bb (eqQ l r)) [] O:=by
 generalize hB:eqQ l r=B;refine zaa Tk Tryz.func99 rfl Tryz.call99 Tryz.ntmps99 (Nat.le_of_ble_eq_true rfl) fun E=>?_;refine zai Tk Tryz.func99 ?_;refine zad Tk Tryz.func99 rfl (fun c1=>?_) (fun c1=>?_)
 ·have c1:(l.length:Int)≠(r.length:Int):=bneT c1;have:B=false:=hB.symm.trans (zaQ fun e=>c1 (by rw[e]));subst this;refine zae Tk (r:=bb false) rfl rfl rfl trivial rfl rfl ?_;rfl
 have c1:(l.length:Int)=(r.length:Int):=bneF c1;have hn:l.length=r.length:=by omega
 refine zah ?_;refine zal (fun i:Nat=>[(1,.i (.sl 3 r.length (r.map ncnI))),(2,.fn (.func 100) [] []),(15,.i (.sl 3 l.length (l.map ncnI))),(16,ii l.length),(17,ii i)]) (fun _=>[]) (fun _=>O) 32
  (fun i=>i≤l.length∧∀j,j<i→l[j]? = r[j]?) (fun i=>l.length-i) 0 ⟨Nat.zero_le _,fun j hj=>absurd hj (Nat.not_lt_zero _)⟩ ⟨rfl,rfl,rfl,rfl,rfl,trivial⟩ rfl trivial rfl rfl ?_
 intro i hii ih;obtain⟨hi,hag⟩:i≤l.length∧∀j,j<i→l[j]? = r[j]?:=hii;refine zai Tk Tryz.func99 ?_;refine zad Tk Tryz.func99 rfl (fun g1=>?_) (fun g1=>?_);rotate_left
 ·have g1:l.length≤i:=by simpa using g1
  have:B=true:=hB.symm.trans (za4 (zbL hn hag g1));subst this;refine zae Tk (r:=bb true) rfl rfl rfl trivial rfl rfl ?_;rfl
 have g1:i<l.length:=by simpa using g1
 have g2:i<r.length:=by omega
 have gl:(l.map ncnI)[(i:Int).toNat]? = some (ncnI l[i]):=zak (f:=ncnI) g1;have gr:(r.map ncnI)[(i:Int).toNat]? = some (ncnI r[i]):=zak (f:=ncnI) g2;have hno:l[i]≠r[i]→B=false:=fun h=>hB.symm.trans (zaQ fun e=>h (by subst e;rfl));have hst:l[i]=r[i]→∀j,j<i+1→l[j]? = r[j]?:=fun h=>zbn hag (by rw[List.getElem?_eq_getElem g1,List.getElem?_eq_getElem g2,h]);have hi1:ii (IntKind.i64.wrap ((i:Int)+1))=ii ((i+1:Nat):Int):=congrArg ii (zaE (n:=zan) (by omega) (by decide));have hpi:=hp i _ _ (List.getElem?_eq_getElem g1) (List.getElem?_eq_getElem g2);clear hp;generalize l[i]=a at *;generalize r[i]=b at *;refine zaf Tk Tryz.func99 (by exact⟨by omega,by show (i:Int)<(l.length:Int);omega⟩) ?_;refine zaq Tk Tryz.func99 (gl) ?_;refine zaf Tk Tryz.func99 (by exact⟨by omega,by show (i:Int)<(r.length:Int);omega⟩) ?_;refine zaq Tk Tryz.func99 (gr) ?_
 refine zaj Tk Tryz.func99 (hpi _) rfl rfl rfl rfl rfl ?_;refine zad Tk Tryz.func99 rfl (fun c2=>?_) (fun c2=>?_)
 ·have c2:=hno (zfH rfl c2);subst c2;refine zae Tk (r:=bb false) rfl rfl rfl trivial rfl rfl ?_;rfl
 refine zah ?_;exact ih (i+1) _ _ ⟨g1,hst (zeO rfl c2)⟩ (by omega) ⟨rfl,rfl,rfl,rfl,hi1,trivial⟩ rfl trivial rfl rfl
theorem zvw (O:List Heap) (l r:List Tpl) (hl:l.length≤zan) (hp:∀(i:Nat) a b,l[i]? = some a→r[i]? = some b→∀O,zao Tryz.prog 91 [tplD a,tplD b] O (bb (eqQ a b)) [] O):zao Tryz.prog 90 [.i (.sl 9 l.length (l.map tplI)),.i (.sl 9 r.length (r.map tplI)),.fn (.func 91) [] []] O (bb (eqQ l r)) [] O:=by
 generalize hB:eqQ l r=B;refine zaa Tk Tryz.func90 rfl Tryz.call90 Tryz.ntmps90 (Nat.le_of_ble_eq_true rfl) fun E=>?_;refine zai Tk Tryz.func90 ?_;refine zad Tk Tryz.func90 rfl (fun c1=>?_) (fun c1=>?_)
 ·have c1:(l.length:Int)≠(r.length:Int):=bneT c1;have:B=false:=hB.symm.trans (zaQ fun e=>c1 (by rw[e]));subst this;refine zae Tk (r:=bb false) rfl rfl rfl trivial rfl rfl ?_;rfl
 have c1:(l.length:Int)=(r.length:Int):=bneF c1;have hn:l.length=r.length:=by omega
 refine zah ?_;refine zal (fun i:Nat=>[(1,.i (.sl 9 r.length (r.map tplI))),(2,.fn (.func 91) [] []),(15,.i (.sl 9 l.length (l.map tplI))),(16,ii l.length),(17,ii i)]) (fun _=>[]) (fun _=>O) 32
  (fun i=>i≤l.length∧∀j,j<i→l[j]? = r[j]?) (fun i=>l.length-i) 0 ⟨Nat.zero_le _,fun j hj=>absurd hj (Nat.not_lt_zero _)⟩ ⟨rfl,rfl,rfl,rfl,rfl,trivial⟩ rfl trivial rfl rfl ?_
 intro i hii ih;obtain⟨hi,hag⟩:i≤l.length∧∀j,j<i→l[j]? = r[j]?:=hii;refine zai Tk Tryz.func90 ?_;refine zad Tk Tryz.func90 rfl (fun g1=>?_) (fun g1=>?_);rotate_left
 ·have g1:l.length≤i:=by simpa using g1
  have:B=true:=hB.symm.trans (za4 (zbL hn hag g1));subst this;refine zae Tk (r:=bb true) rfl rfl rfl trivial rfl rfl ?_;rfl
 have g1:i<l.length:=by simpa using g1
 have g2:i<r.length:=by omega
 have gl:(l.map tplI)[(i:Int).toNat]? = some (tplI l[i]):=zak (f:=tplI) g1;have gr:(r.map tplI)[(i:Int).toNat]? = some (tplI r[i]):=zak (f:=tplI) g2;have hno:l[i]≠r[i]→B=false:=fun h=>hB.symm.trans (zaQ fun e=>h (by subst e;rfl));have hst:l[i]=r[i]→∀j,j<i+1→l[j]? = r[j]?:=fun h=>zbn hag (by rw[List.getElem?_eq_getElem g1,List.getElem?_eq_getElem g2,h]);have hi1:ii (IntKind.i64.wrap ((i:Int)+1))=ii ((i+1:Nat):Int):=congrArg ii (zaE (n:=zan) (by omega) (by decide));have hpi:=hp i _ _ (List.getElem?_eq_getElem g1) (List.getElem?_eq_getElem g2);clear hp;generalize l[i]=a at *;generalize r[i]=b at *;refine zaf Tk Tryz.func90 (by exact⟨by omega,by show (i:Int)<(l.length:Int);omega⟩) ?_;refine zaq Tk Tryz.func90 (gl) ?_;refine zaf Tk Tryz.func90 (by exact⟨by omega,by show (i:Int)<(r.length:Int);omega⟩) ?_;refine zaq Tk Tryz.func90 (gr) ?_
 refine zaj Tk Tryz.func90 (hpi _) rfl rfl rfl rfl rfl ?_;refine zad Tk Tryz.func90 rfl (fun c2=>?_) (fun c2=>?_)
 ·have c2:=hno (zfH rfl c2);subst c2;refine zae Tk (r:=bb false) rfl rfl rfl trivial rfl rfl ?_;rfl
 refine zah ?_;exact ih (i+1) _ _ ⟨g1,hst (zeO rfl c2)⟩ (by omega) ⟨rfl,rfl,rfl,rfl,hi1,trivial⟩ rfl trivial rfl rfl
theorem vrQ {a b:Vr}:(a.name.toList==b.name.toList&&(a.low==b.low&&(a.high==b.high&&(a.init==b.init&&true))))=eqQ a b:=by
 rw[Bool.eq_iff_iff,zaY,strQ];obtain⟨a0,a1,a2,a3⟩:=a;obtain⟨b0,b1,b2,b3⟩:=b;simp[zaY]
abbrev mvD2 (m:Mv):D:=.agg [ii m.frm,ii m.ev,ii m.to,ii m.g.op,ii m.g.vl,ii m.g.ix,exs m.g.args,upds m.us]
abbrev zuk (u:Upd):D:=.agg [ii u.v,ii u.x.op,ii u.x.vl,ii u.x.ix,exs u.x.args]
theorem zvv (O:List Heap) (l:List Ex) (hl:l.length≤zan) (hp:∀a∈l,∀O,zao Tryz.prog 219 [exA a,exA a] O (bb true) [] O):zao Tryz.prog 252 [exs l,exs l,.fn (.func 219) [] []] O (bb true) [] O:=by
 refine zaa Tk Tryz.func252 rfl Tryz.call252 Tryz.ntmps252 (Nat.le_of_ble_eq_true rfl) fun E=>?_;refine zai Tk Tryz.func252 ?_;refine zad Tk Tryz.func252 rfl (fun h=>absurd h (by simp)) (fun _=>?_);refine zah ?_;refine zal (fun i:Nat=>[(1,exs l),(2,.fn (.func 219) [] []),(15,exs l),(16,ii l.length),(17,ii i)]) (fun _=>[]) (fun _=>O) 32
  (fun i=>i≤l.length) (fun i=>l.length-i) 0 (Nat.zero_le _) ⟨rfl,rfl,rfl,rfl,rfl,trivial⟩ rfl trivial rfl rfl ?_
 intro i hi ih;have hi:i≤l.length:=hi;refine zai Tk Tryz.func252 ?_;refine zad Tk Tryz.func252 rfl (fun g1=>?_) (fun g1=>?_);rotate_left
 ·refine zae Tk (r:=bb true) rfl rfl rfl trivial rfl rfl ?_;rfl
 have g1:i<l.length:=by simpa using g1
 have gl:=zef g1;have hi1:ii (IntKind.i64.wrap ((i:Int)+1))=ii ((i+1:Nat):Int):=congrArg ii (zaE (n:=zan) (by omega) (by decide));have hpi:=hp l[i] (List.getElem_mem g1);clear hp;generalize l[i]=a at *;obtain⟨eo,ev,ex,ea⟩:=a;refine zaf Tk Tryz.func252 (by exact⟨by omega,by show (i:Int)<(l.length:Int);omega⟩) ?_;refine zaq Tk Tryz.func252 (gl) ?_;refine zaf Tk Tryz.func252 (by exact⟨by omega,by show (i:Int)<(l.length:Int);omega⟩) ?_;refine zaq Tk Tryz.func252 (gl) ?_;refine zaj Tk Tryz.func252 (hpi _) rfl rfl rfl rfl rfl ?_;refine gcF Tk Tryz.func252 rfl ?_;refine zah ?_;exact ih (i+1) _ _ g1 (by omega) ⟨rfl,rfl,rfl,rfl,hi1,trivial⟩ rfl trivial rfl rfl
theorem zsX:∀(N:Nat) (x:Ex),SizeOf.sizeOf x<N→exOk x→∀O,zao Tryz.prog 219 [exA x,exA x] O (bb true) [] O:=by
 intro N
 induction N with
 |zero=>intro x h;omega
 |succ N ihN=>
  intro x hs hok O;obtain⟨op,v,ix,args⟩:=x;unfold exOk at hok;have hch:∀e∈args,∀O,zao Tryz.prog 219 [exA e,exA e] O (bb true) [] O:=by
   intro e he O;refine ihN e ?_ (zff hok.2 e he) O;have:=List.sizeOf_lt_of_mem he;simp only[Ex.mk.sizeOf_spec] at hs;omega
  have h252:=fun O=>zvv O args hok.1 hch;clear ihN hs hok hch;show zao Tryz.prog 219 [.agg [ii op,ii v,ii ix,exs args],.agg [ii op,ii v,ii ix,exs args]] O (bb true) [] O;refine zaa Tk Tryz.func219 rfl Tryz.call219 Tryz.ntmps219 (Nat.le_of_ble_eq_true rfl) fun E=>?_;refine zai Tk Tryz.func219 ?_;refine zaw Tk Tryz.func219 rfl (fun _=>?_) (fun h=>absurd h (by simp));refine zaw Tk Tryz.func219 rfl (fun _=>?_) (fun h=>absurd h (by simp));refine zaw Tk Tryz.func219 rfl (fun _=>?_) (fun h=>absurd h (by simp));refine zaj Tk Tryz.func219 (h252 _) rfl rfl rfl rfl rfl ?_;refine zae Tk (r:=bb true) rfl rfl rfl trivial rfl rfl ?_;rfl
theorem zvA (O:List Heap) (u:Upd) (h:exOk u.x):zao Tryz.prog 221 [zuk u,zuk u] O (bb true) [] O:=by
 have h1:=fun O=>zsX _ u.x (Nat.lt_succ_self _) h O;obtain⟨uv,⟨uo,uvl,ui,ua⟩⟩:=u;simp only at h1;refine zaa Tk Tryz.func221 rfl Tryz.call221 Tryz.ntmps221 (Nat.le_of_ble_eq_true rfl) fun E=>?_;refine zai Tk Tryz.func221 ?_;refine zaw Tk Tryz.func221 rfl (fun _=>?_) (fun h=>absurd h (by simp));refine zaj Tk Tryz.func221 (h1 _) rfl rfl rfl rfl rfl ?_;refine zae Tk (r:=bb true) rfl rfl rfl trivial rfl rfl ?_;rfl
theorem zsT (O:List Heap) (l:List Upd) (hl:l.length≤zan) (hp:∀a∈l,∀O,zao Tryz.prog 221 [zuk a,zuk a] O (bb true) [] O):zao Tryz.prog 220 [upds l,upds l,.fn (.func 221) [] []] O (bb true) [] O:=by
 refine zaa Tk Tryz.func220 rfl Tryz.call220 Tryz.ntmps220 (Nat.le_of_ble_eq_true rfl) fun E=>?_;refine zai Tk Tryz.func220 ?_;refine zad Tk Tryz.func220 rfl (fun h=>absurd h (by simp)) (fun _=>?_);refine zah ?_;refine zal (fun i:Nat=>[(1,upds l),(2,.fn (.func 221) [] []),(15,upds l),(16,ii l.length),(17,ii i)]) (fun _=>[]) (fun _=>O) 32
  (fun i=>i≤l.length) (fun i=>l.length-i) 0 (Nat.zero_le _) ⟨rfl,rfl,rfl,rfl,rfl,trivial⟩ rfl trivial rfl rfl ?_
 intro i hi ih;have hi:i≤l.length:=hi;refine zai Tk Tryz.func220 ?_;refine zad Tk Tryz.func220 rfl (fun g1=>?_) (fun g1=>?_);rotate_left
 ·refine zae Tk (r:=bb true) rfl rfl rfl trivial rfl rfl ?_;rfl
 have g1:i<l.length:=by simpa using g1
 have gl:=(zak (f:=updI) g1:(l.map updI)[(i:Int).toNat]? = some (updI l[i]));have hi1:ii (IntKind.i64.wrap ((i:Int)+1))=ii ((i+1:Nat):Int):=congrArg ii (zaE (n:=zan) (by omega) (by decide));have hpi:=hp l[i] (List.getElem_mem g1);clear hp;generalize l[i]=a at *;obtain⟨uv,⟨uo,uvl,ui,ua⟩⟩:=a;refine zaf Tk Tryz.func220 (by exact⟨by omega,by show (i:Int)<(l.length:Int);omega⟩) ?_;refine zaq Tk Tryz.func220 (gl) ?_;refine zaf Tk Tryz.func220 (by exact⟨by omega,by show (i:Int)<(l.length:Int);omega⟩) ?_;refine zaq Tk Tryz.func220 (gl) ?_;refine zaj Tk Tryz.func220 (hpi _) rfl rfl rfl rfl rfl ?_;refine gcF Tk Tryz.func220 rfl ?_;refine zah ?_;exact ih (i+1) _ _ g1 (by omega) ⟨rfl,rfl,rfl,rfl,hi1,trivial⟩ rfl trivial rfl rfl
theorem zxS (O:List Heap) (m:Mv) (h:mvOk m):zao Tryz.prog 160 [mvD2 m,mvD2 m] O (bb true) [] O:=by
 obtain⟨hg,hul,hu⟩:=h;have h1:=fun O=>zsX _ m.g (Nat.lt_succ_self _) hg O;have h2:=fun O=>zsT O m.us hul fun u hm O=>zvA O u (hu u hm);clear hg hul hu;obtain⟨yf,ye,yt,⟨go,gv,gi,ga⟩,us⟩:=m;simp only at h1 h2;refine zaa Tk Tryz.func160 rfl Tryz.call160 Tryz.ntmps160 (Nat.le_of_ble_eq_true rfl) fun E=>?_;refine zai Tk Tryz.func160 ?_;refine zaw Tk Tryz.func160 rfl (fun _=>?_) (fun h=>absurd h (by simp));refine zaw Tk Tryz.func160 rfl (fun _=>?_) (fun h=>absurd h (by simp));refine zaw Tk Tryz.func160 rfl (fun _=>?_) (fun h=>absurd h (by simp));refine zaj Tk Tryz.func160 (h1 _) rfl rfl rfl rfl rfl ?_;refine gkT Tk Tryz.func160 rfl ?_;refine zaj Tk Tryz.func160 (h2 _) rfl rfl rfl rfl rfl ?_;refine zae Tk (r:=bb true) rfl rfl rfl trivial rfl rfl ?_;rfl
theorem zvu (O:List Heap) (l:List Mv) (hl:l.length≤zan) (hp:∀a∈l,∀O,zao Tryz.prog 160 [mvD2 a,mvD2 a] O (bb true) [] O):zao Tryz.prog 159 [mvs l,mvs l,.fn (.func 160) [] []] O (bb true) [] O:=by
 refine zaa Tk Tryz.func159 rfl Tryz.call159 Tryz.ntmps159 (Nat.le_of_ble_eq_true rfl) fun E=>?_;refine zai Tk Tryz.func159 ?_;refine zad Tk Tryz.func159 rfl (fun h=>absurd h (by simp)) (fun _=>?_);refine zah ?_;refine zal (fun i:Nat=>[(1,mvs l),(2,.fn (.func 160) [] []),(15,mvs l),(16,ii l.length),(17,ii i)]) (fun _=>[]) (fun _=>O) 32
  (fun i=>i≤l.length) (fun i=>l.length-i) 0 (Nat.zero_le _) ⟨rfl,rfl,rfl,rfl,rfl,trivial⟩ rfl trivial rfl rfl ?_
 intro i hi ih;have hi:i≤l.length:=hi;refine zai Tk Tryz.func159 ?_;refine zad Tk Tryz.func159 rfl (fun g1=>?_) (fun g1=>?_);rotate_left
 ·refine zae Tk (r:=bb true) rfl rfl rfl trivial rfl rfl ?_;rfl
 have g1:i<l.length:=by simpa using g1
 have gl:=(zak (f:=mvI) g1:(l.map mvI)[(i:Int).toNat]? = some (mvI l[i]));have hi1:ii (IntKind.i64.wrap ((i:Int)+1))=ii ((i+1:Nat):Int):=congrArg ii (zaE (n:=zan) (by omega) (by decide));have hpi:=hp l[i] (List.getElem_mem g1);clear hp;generalize l[i]=a at *;obtain⟨yf,ye,yt,⟨go,gv,gi,ga⟩,us⟩:=a;refine zaf Tk Tryz.func159 (by exact⟨by omega,by show (i:Int)<(l.length:Int);omega⟩) ?_;refine zaq Tk Tryz.func159 (gl) ?_;refine zaf Tk Tryz.func159 (by exact⟨by omega,by show (i:Int)<(l.length:Int);omega⟩) ?_;refine zaq Tk Tryz.func159 (gl) ?_;refine zaj Tk Tryz.func159 (hpi _) rfl rfl rfl rfl rfl ?_;refine gcF Tk Tryz.func159 rfl ?_;refine zah ?_;exact ih (i+1) _ _ g1 (by omega) ⟨rfl,rfl,rfl,rfl,hi1,trivial⟩ rfl trivial rfl rfl
theorem zvz (O:List Heap) (l r:List Vr) (hl:l.length≤zan):zao Tryz.prog 158 [.i (.sl 4 l.length (l.map vrI)),.i (.sl 4 r.length (r.map vrI))] O (bb (eqQ l r)) [] O:=by
 generalize hB:eqQ l r=B;refine zaa Tk Tryz.func158 rfl Tryz.call158 Tryz.ntmps158 (Nat.le_of_ble_eq_true rfl) fun E=>?_;refine zai Tk Tryz.func158 ?_;refine zad Tk Tryz.func158 rfl (fun c1=>?_) (fun c1=>?_)
 ·have c1:(l.length:Int)≠(r.length:Int):=bneT c1;have:B=false:=hB.symm.trans (zaQ fun e=>c1 (by rw[e]));subst this;refine zae Tk (r:=bb false) rfl rfl rfl trivial rfl rfl ?_;rfl
 have c1:(l.length:Int)=(r.length:Int):=bneF c1;have hn:l.length=r.length:=by omega
 refine zah ?_;refine zal (fun i:Nat=>[(0,.i (.sl 4 l.length (l.map vrI))),(1,.i (.sl 4 r.length (r.map vrI))),(12,ii l.length),(13,ii i)]) (fun _=>[]) (fun _=>O) 26
  (fun i=>i≤l.length∧∀j,j<i→l[j]? = r[j]?) (fun i=>l.length-i) 0 ⟨Nat.zero_le _,fun j hj=>absurd hj (Nat.not_lt_zero _)⟩ ⟨rfl,rfl,rfl,rfl,trivial⟩ rfl trivial rfl rfl ?_
 intro i hii ih;obtain⟨hi,hag⟩:i≤l.length∧∀j,j<i→l[j]? = r[j]?:=hii;refine zai Tk Tryz.func158 ?_;refine zad Tk Tryz.func158 rfl (fun g1=>?_) (fun g1=>?_);rotate_left
 ·have g1:l.length≤i:=by simpa using g1
  have:B=true:=hB.symm.trans (za4 (zbL hn hag g1));subst this;refine zae Tk (r:=bb true) rfl rfl rfl trivial rfl rfl ?_;rfl
 have g1:i<l.length:=by simpa using g1
 have g2:i<r.length:=by omega
 have gl:(l.map vrI)[(i:Int).toNat]? = some (vrI l[i]):=zak (f:=vrI) g1;have gr:(r.map vrI)[(i:Int).toNat]? = some (vrI r[i]):=zak (f:=vrI) g2;have hno:l[i]≠r[i]→B=false:=fun h=>hB.symm.trans (zaQ fun e=>h (by subst e;rfl));have hst:l[i]=r[i]→∀j,j<i+1→l[j]? = r[j]?:=fun h=>zbn hag (by rw[List.getElem?_eq_getElem g1,List.getElem?_eq_getElem g2,h]);have hi1:ii (IntKind.i64.wrap ((i:Int)+1))=ii ((i+1:Nat):Int):=congrArg ii (zaE (n:=zan) (by omega) (by decide));generalize l[i]=a at *;generalize r[i]=b at *;obtain⟨a0,a1,a2,a3⟩:=a;obtain⟨b0,b1,b2,b3⟩:=b;refine zat Tk Tryz.func158 zaA rfl ?_;refine zar Tk (by exact⟨by omega,by show (i:Int)<(l.length:Int);omega⟩) ?_;refine zax Tk (gl) ?_;refine zar Tk (by exact⟨by omega,by show (i:Int)<(r.length:Int);omega⟩) ?_;refine zax Tk (gr) ?_;refine zaC Tk Tryz.func158 (by kernel_rfl) ?_
 refine zad Tk Tryz.func158 rfl (fun c2=>?_) (fun c2=>?_)
 ·have c2:=hno (zfH vrQ c2);subst c2;refine zae Tk (r:=bb false) rfl rfl rfl trivial rfl rfl ?_;rfl
 refine zah ?_;exact ih (i+1) _ _ ⟨g1,hst (zeO vrQ c2)⟩ (by omega) ⟨rfl,rfl,rfl,hi1,trivial⟩ rfl trivial rfl rfl
theorem zfM {a:Ext} {c:Int}:eqQ a (zbw a c)=decide (a.init=c):=by
 rw[Bool.eq_iff_iff,zaY,decide_eq_true_eq];obtain⟨al,lo,ini,mk,vr,mo⟩:=a;simp[zbw]
theorem zvE (O:List Heap) (a:Ext) (c:Int) (ha:extOk a):zao Tryz.prog 93 [extD a,extD (zbw a c)] O (bb (eqQ a (zbw a c))) [] O:=by
 rw[zfM];have h1:∀O,zao Tryz.prog 67 [ints a.alpha,ints a.alpha] O (bb true) [] O:=fun O=>by
  have h:=zhq O a.alpha a.alpha ha.al;rwa [decide_eq_true rfl] at h
 have h2:∀O,zao Tryz.prog 67 [ints a.marked,ints a.marked] O (bb true) [] O:=fun O=>by
  have h:=zhq O a.marked a.marked ha.ma;rwa [decide_eq_true rfl] at h
 have h3:∀O,zao Tryz.prog 158 [vrs a.vars,vrs a.vars] O (bb true) [] O:=fun O=>by
  have h:=zvz O a.vars a.vars ha.va;rwa [za4 rfl] at h
 have h4:=fun O=>zvu O a.moves ha.mo fun m hm O=>zxS O m (ha.mv m hm);clear ha;obtain⟨al,lo,ini,mk,vr,mo⟩:=a;simp only at h1 h2 h3 h4;show zao Tryz.prog 93 [.agg [ints al,ii lo,ii ini,ints mk,vrs vr,mvs mo],.agg [ints al,ii lo,ii c,ints mk,vrs vr,mvs mo]] O (bb (decide (ini=c))) [] O;refine zaa Tk Tryz.func93 rfl Tryz.call93 Tryz.ntmps93 (Nat.le_of_ble_eq_true rfl) fun E=>?_;refine zai Tk Tryz.func93 ?_;refine zaj Tk Tryz.func93 (h1 _) rfl rfl rfl rfl rfl ?_;refine gkT Tk Tryz.func93 rfl ?_;refine zaw Tk Tryz.func93 rfl (fun _=>?_) (fun h=>absurd h (by simp));refine zaw Tk Tryz.func93 rfl (fun k=>?_) (fun k=>?_)
 ·have k:ini=c:=beqT k;rw[decide_eq_true k];refine zaj Tk Tryz.func93 (h2 _) rfl rfl rfl rfl rfl ?_;refine gkT Tk Tryz.func93 rfl ?_;refine zaj Tk Tryz.func93 (h3 _) rfl rfl rfl rfl rfl ?_;refine gkT Tk Tryz.func93 rfl ?_;refine zaj Tk Tryz.func93 (h4 _) rfl rfl rfl rfl rfl ?_;refine zae Tk (r:=bb true) rfl rfl rfl trivial rfl rfl ?_;rfl
 have k:¬ini=c:=beqF k;rw[decide_eq_false k];refine gkF Tk Tryz.func93 rfl ?_;refine gkF Tk Tryz.func93 rfl ?_;refine zae Tk (r:=bb false) rfl rfl rfl trivial rfl rfl ?_;rfl
theorem intQ {a b:Int}:(a==b)=eqQ a b:=by rw[Bool.eq_iff_iff,zaY,beq_iff_eq]
theorem zsV (O:List Heap) (a b:Ins) (ha:a.evs.length≤zan):zao Tryz.prog 95 [insD a,insD b] O (bb (eqQ a b)) [] O:=by
 have h1:=fun O=>zhr O a.evs b.evs ha;have hB:eqQ a b=((a.name.toList==b.name.toList)&&((a.tpl.toList==b.tpl.toList)&&eqQ a.evs b.evs)):=by
  rw[Bool.eq_iff_iff,zaY];obtain⟨a0,a1,a2⟩:=a;obtain⟨b0,b1,b2⟩:=b;simp[strQ,intQ,zaY]
 generalize eqQ a b=B at *;generalize eqQ a.evs b.evs=Q2 at *;obtain⟨a0,a1,a2⟩:=a;obtain⟨b0,b1,b2⟩:=b;simp only at *;refine zaa Tk Tryz.func95 rfl Tryz.call95 Tryz.ntmps95 (Nat.le_of_ble_eq_true rfl) fun E=>?_;refine zai Tk Tryz.func95 ?_;refine zaw Tk Tryz.func95 rfl (fun c0=>?_) (fun c0=>?_);rotate_left
 ·have:B=false:=by rw[hB,c0];rfl
  subst this;refine gkF Tk Tryz.func95 rfl ?_;refine zae Tk (r:=bb false) rfl rfl rfl trivial rfl rfl ?_;rfl
 refine zaw Tk Tryz.func95 rfl (fun c1=>?_) (fun c1=>?_);rotate_left
 ·have:B=false:=by rw[hB,c0,c1];rfl
  subst this;refine zae Tk (r:=bb false) rfl rfl rfl trivial rfl rfl ?_;rfl
 refine zaj Tk Tryz.func95 (h1 _) rfl rfl rfl rfl rfl ?_;have:B=Q2:=by rw[hB,c0,c1];rfl
 rw[this];refine zae Tk (r:=bb Q2) rfl rfl rfl trivial rfl rfl ?_;rfl
theorem zxR (O:List Heap) (a b:NEx) (ha:a.locals.length≤zan):zao Tryz.prog 97 [zuV a,zuV b] O (bb (eqQ a b)) [] O:=by
 have h1:=fun O=>zvC O a.locals b.locals ha;have hB:eqQ a b=((a.name.toList==b.name.toList)&&eqQ a.locals b.locals):=by
  rw[Bool.eq_iff_iff,zaY];obtain⟨a0,a1⟩:=a;obtain⟨b0,b1⟩:=b;simp[strQ,intQ,zaY]
 generalize eqQ a b=B at *;generalize eqQ a.locals b.locals=Q1 at *;obtain⟨a0,a1⟩:=a;obtain⟨b0,b1⟩:=b;simp only at *;refine zaa Tk Tryz.func97 rfl Tryz.call97 Tryz.ntmps97 (Nat.le_of_ble_eq_true rfl) fun E=>?_;refine zai Tk Tryz.func97 ?_;refine zaw Tk Tryz.func97 rfl (fun c0=>?_) (fun c0=>?_);rotate_left
 ·have:B=false:=by rw[hB,c0];rfl
  subst this;refine zae Tk (r:=bb false) rfl rfl rfl trivial rfl rfl ?_;rfl
 refine zaj Tk Tryz.func97 (h1 _) rfl rfl rfl rfl rfl ?_;have:B=Q1:=by rw[hB,c0];rfl
 rw[this];refine zae Tk (r:=bb Q1) rfl rfl rfl trivial rfl rfl ?_;rfl
theorem zvD (O:List Heap) (a b:NCn) (ha:a.terms.length≤zan):zao Tryz.prog 100 [zuW a,zuW b] O (bb (eqQ a b)) [] O:=by
 have h1:=fun O=>zsU O a.terms b.terms ha;have hB:eqQ a b=((a.name.toList==b.name.toList)&&(eqQ a.terms b.terms&&(a.bound==b.bound))):=by
  rw[Bool.eq_iff_iff,zaY];obtain⟨a0,a1,a2⟩:=a;obtain⟨b0,b1,b2⟩:=b;simp[strQ,intQ,zaY]
 generalize eqQ a b=B at *;generalize eqQ a.terms b.terms=Q1 at *;obtain⟨a0,a1,a2⟩:=a;obtain⟨b0,b1,b2⟩:=b;simp only at *;refine zaa Tk Tryz.func100 rfl Tryz.call100 Tryz.ntmps100 (Nat.le_of_ble_eq_true rfl) fun E=>?_;refine zai Tk Tryz.func100 ?_;refine zaw Tk Tryz.func100 rfl (fun c0=>?_) (fun c0=>?_);rotate_left
 ·have:B=false:=by rw[hB,c0];rfl
  subst this;refine gkF Tk Tryz.func100 rfl ?_;refine zae Tk (r:=bb false) rfl rfl rfl trivial rfl rfl ?_;rfl
 refine zaj Tk Tryz.func100 (h1 _) rfl rfl rfl rfl rfl ?_;refine zaw Tk Tryz.func100 rfl (fun c1=>?_) (fun c1=>?_);rotate_left
 ·have:B=false:=by rw[hB,c0,c1];rfl
  subst this;refine zae Tk (r:=bb false) rfl rfl rfl trivial rfl rfl ?_;rfl
 have:B=(a2==b2):=by rw[hB,c0,c1];rfl
 rw[this];refine zae Tk (r:=bb ((a2==b2))) rfl rfl rfl trivial rfl rfl ?_;rfl
theorem zxQ (O:List Heap) (a b:Tpl) (ha:tplOk a) (hc:∃c,b.mach=zbw a.mach c):zao Tryz.prog 91 [tplD a,tplD b] O (bb (eqQ a b)) [] O:=by
 have h1:=fun O=>zhr O a.locs b.locs (by have:=ha.ll;simp only[zan];omega);have h2:=fun O=>zhr O a.evs b.evs (by have:=ha.el;simp only[zan];omega);have h3:∀O,zao Tryz.prog 93 [extD a.mach,extD b.mach] O (bb (eqQ a.mach b.mach)) [] O:=fun O=>by
  obtain⟨c,hc⟩:=hc;rw[hc];exact zvE O a.mach c ha.mo
 clear ha hc;have hB:eqQ a b=((a.name.toList==b.name.toList)&&(eqQ a.locs b.locs&&(eqQ a.evs b.evs&&eqQ a.mach b.mach))):=by
  rw[Bool.eq_iff_iff,zaY];obtain⟨a0,a1,a2,⟨a3,a4,a5,a6,a7,a8⟩⟩:=a;obtain⟨b0,b1,b2,⟨b3,b4,b5,b6,b7,b8⟩⟩:=b;simp[strQ,intQ,zaY]
 generalize eqQ a b=B at *;generalize eqQ a.locs b.locs=Q1 at *;generalize eqQ a.evs b.evs=Q2 at *;generalize eqQ a.mach b.mach=Q3 at *;obtain⟨a0,a1,a2,⟨a3,a4,a5,a6,a7,a8⟩⟩:=a;obtain⟨b0,b1,b2,⟨b3,b4,b5,b6,b7,b8⟩⟩:=b;simp only at *;refine zaa Tk Tryz.func91 rfl Tryz.call91 Tryz.ntmps91 (Nat.le_of_ble_eq_true rfl) fun E=>?_;refine zai Tk Tryz.func91 ?_;refine zaw Tk Tryz.func91 rfl (fun c0=>?_) (fun c0=>?_);rotate_left
 ·have:B=false:=by rw[hB,c0];rfl
  subst this;refine gkF Tk Tryz.func91 rfl ?_;refine gkF Tk Tryz.func91 rfl ?_;refine zae Tk (r:=bb false) rfl rfl rfl trivial rfl rfl ?_;rfl
 refine zaj Tk Tryz.func91 (h1 _) rfl rfl rfl rfl rfl ?_;refine zaw Tk Tryz.func91 rfl (fun c1=>?_) (fun c1=>?_);rotate_left
 ·have:B=false:=by rw[hB,c0,c1];rfl
  subst this;refine gkF Tk Tryz.func91 rfl ?_;refine zae Tk (r:=bb false) rfl rfl rfl trivial rfl rfl ?_;rfl
 refine zaj Tk Tryz.func91 (h2 _) rfl rfl rfl rfl rfl ?_;refine zaw Tk Tryz.func91 rfl (fun c2=>?_) (fun c2=>?_);rotate_left
 ·have:B=false:=by rw[hB,c0,c1,c2];rfl
  subst this;refine zae Tk (r:=bb false) rfl rfl rfl trivial rfl rfl ?_;rfl
 refine zaj Tk Tryz.func91 (h3 _) rfl rfl rfl rfl rfl ?_;have:B=Q3:=by rw[hB,c0,c1,c2];rfl
 rw[this];refine zae Tk (r:=bb Q3) rfl rfl rfl trivial rfl rfl ?_;rfl
theorem zm5 (O:List Heap) (a b:Mdl) (ha:mdlOk a) (ht:∀(i:Nat) x y,a.tpls[i]? = some x→b.tpls[i]? = some y→∃c,y.mach=zbw x.mach c):zao Tryz.prog 36 [mdlD a,mdlD b] O (bb (eqQ a b)) [] O:=by
 have h1:=fun O=>zvG O a.evs b.evs (by have:=ha.ev;simp only[zan];omega);have h2:=fun O=>zvw O a.tpls b.tpls (by have:=ha.tp;simp only[zan];omega) fun i x y hx hy O=>zxQ O x y (ha.tpk x (List.mem_of_getElem? hx)) (ht i x y hx hy);have h3:=fun O=>znS O a.comps b.comps (by have:=ha.co;simp only[zan];omega) fun i x y hx _ O=>zsV O x y (by have:=(ha.cok x (List.mem_of_getElem? hx)).2;simp only[zan];omega);have h4:=fun O=>znS O a.reqs b.reqs (by have:=ha.rq;simp only[zan];omega) fun i x y hx _ O=>zsV O x y (by have:=(ha.rqk x (List.mem_of_getElem? hx)).2;simp only[zan];omega);have h5:=fun O=>zvx O a.excs b.excs (by have:=ha.ex;simp only[zan];omega) fun i x y hx _ O=>zxR O x y (by have:=(ha.exk x (List.mem_of_getElem? hx)).2;simp only[zan];omega)
 have h6:=fun O=>zvy O a.cons b.cons (by have:=ha.cn;simp only[zan];omega) fun i x y hx _ O=>zvD O x y (by have:=(ha.cnk x (List.mem_of_getElem? hx)).2;simp only[zan];omega);clear ha ht;have hB:eqQ a b=((a.name.toList==b.name.toList)&&(eqQ a.evs b.evs&&(eqQ a.tpls b.tpls&&(eqQ a.comps b.comps&&(eqQ a.reqs b.reqs&&(eqQ a.excs b.excs&&eqQ a.cons b.cons)))))):=by
  rw[Bool.eq_iff_iff,zaY];obtain⟨a0,a1,a2,a3,a4,a5,a6⟩:=a;obtain⟨b0,b1,b2,b3,b4,b5,b6⟩:=b;simp[strQ,intQ,zaY]
 generalize eqQ a b=B at *;generalize eqQ a.evs b.evs=Q1 at *;generalize eqQ a.tpls b.tpls=Q2 at *;generalize eqQ a.comps b.comps=Q3 at *;generalize eqQ a.reqs b.reqs=Q4 at *;generalize eqQ a.excs b.excs=Q5 at *;generalize eqQ a.cons b.cons=Q6 at *;obtain⟨a0,a1,a2,a3,a4,a5,a6⟩:=a;obtain⟨b0,b1,b2,b3,b4,b5,b6⟩:=b;simp only at *;refine zaa Tk Tryz.func36 rfl Tryz.call36 Tryz.ntmps36 (Nat.le_of_ble_eq_true rfl) fun E=>?_;refine zai Tk Tryz.func36 ?_;refine zaw Tk Tryz.func36 rfl (fun c0=>?_) (fun c0=>?_);rotate_left
 ·have:B=false:=by rw[hB,c0];rfl
  subst this;refine gkF Tk Tryz.func36 rfl ?_;refine gkF Tk Tryz.func36 rfl ?_;refine gkF Tk Tryz.func36 rfl ?_;refine gkF Tk Tryz.func36 rfl ?_;refine gkF Tk Tryz.func36 rfl ?_;refine zae Tk (r:=bb false) rfl rfl rfl trivial rfl rfl ?_;rfl
 refine zaj Tk Tryz.func36 (h1 _) rfl rfl rfl rfl rfl ?_;refine zaw Tk Tryz.func36 rfl (fun c1=>?_) (fun c1=>?_);rotate_left
 ·have:B=false:=by rw[hB,c0,c1];rfl
  subst this;refine gkF Tk Tryz.func36 rfl ?_;refine gkF Tk Tryz.func36 rfl ?_;refine gkF Tk Tryz.func36 rfl ?_;refine gkF Tk Tryz.func36 rfl ?_;refine zae Tk (r:=bb false) rfl rfl rfl trivial rfl rfl ?_;rfl
 refine zaj Tk Tryz.func36 (h2 _) rfl rfl rfl rfl rfl ?_;refine zaw Tk Tryz.func36 rfl (fun c2=>?_) (fun c2=>?_);rotate_left
 ·have:B=false:=by rw[hB,c0,c1,c2];rfl
  subst this;refine gkF Tk Tryz.func36 rfl ?_;refine gkF Tk Tryz.func36 rfl ?_;refine gkF Tk Tryz.func36 rfl ?_;refine zae Tk (r:=bb false) rfl rfl rfl trivial rfl rfl ?_;rfl
 refine zaj Tk Tryz.func36 (h3 _) rfl rfl rfl rfl rfl ?_;refine zaw Tk Tryz.func36 rfl (fun c3=>?_) (fun c3=>?_);rotate_left
 ·have:B=false:=by rw[hB,c0,c1,c2,c3];rfl
  subst this;refine gkF Tk Tryz.func36 rfl ?_;refine gkF Tk Tryz.func36 rfl ?_;refine zae Tk (r:=bb false) rfl rfl rfl trivial rfl rfl ?_;rfl
 refine zaj Tk Tryz.func36 (h4 _) rfl rfl rfl rfl rfl ?_;refine zaw Tk Tryz.func36 rfl (fun c4=>?_) (fun c4=>?_);rotate_left
 ·have:B=false:=by rw[hB,c0,c1,c2,c3,c4];rfl
  subst this;refine gkF Tk Tryz.func36 rfl ?_;refine zae Tk (r:=bb false) rfl rfl rfl trivial rfl rfl ?_;rfl
 refine zaj Tk Tryz.func36 (h5 _) rfl rfl rfl rfl rfl ?_;refine zaw Tk Tryz.func36 rfl (fun c5=>?_) (fun c5=>?_);rotate_left
 ·have:B=false:=by rw[hB,c0,c1,c2,c3,c4,c5];rfl
  subst this;refine zae Tk (r:=bb false) rfl rfl rfl trivial rfl rfl ?_;rfl
 refine zaj Tk Tryz.func36 (h6 _) rfl rfl rfl rfl rfl ?_;have:B=Q6:=by rw[hB,c0,c1,c2,c3,c4,c5];rfl
 rw[this];refine zae Tk (r:=bb Q6) rfl rfl rfl trivial rfl rfl ?_;rfl
theorem insQ {a b:Ins}:eqQ a b=((a.name.toList==b.name.toList)&&((a.tpl.toList==b.tpl.toList)&&eqQ a.evs b.evs)):=by
 rw[Bool.eq_iff_iff,zaY];obtain⟨a0,a1,a2⟩:=a;obtain⟨b0,b1,b2⟩:=b;simp[strQ,zaY]
theorem zhT (O:List Heap) (l r:List Ins) (hl:l.length≤zan) (hx:∀x∈l,x.evs.length≤zan):zao Tryz.prog 102 [.i (zaK l),.i (zaK r)] O (bb (eqQ l r)) [] O:=by
 generalize hB:eqQ l r=B;refine zaa Tk Tryz.func102 rfl Tryz.call102 Tryz.ntmps102 (Nat.le_of_ble_eq_true rfl) fun E=>?_;refine zai Tk Tryz.func102 ?_;refine zad Tk Tryz.func102 rfl (fun c1=>?_) (fun c1=>?_)
 ·have c1:(l.length:Int)≠(r.length:Int):=bneT c1;have:B=false:=hB.symm.trans (zaQ fun e=>c1 (by rw[e]));subst this;refine zae Tk (r:=bb false) rfl rfl rfl trivial rfl rfl ?_;rfl
 have c1:(l.length:Int)=(r.length:Int):=bneF c1;have hn:l.length=r.length:=by omega
 refine zah ?_;refine zal (fun i:Nat=>[(0,.i (zaK l)),(1,.i (zaK r)),(5,ii i)]) (fun _=>[]) (fun _=>O) 55
  (fun i=>i≤l.length∧∀j,j<i→l[j]? = r[j]?) (fun i=>l.length-i) 0 ⟨Nat.zero_le _,fun j hj=>absurd hj (Nat.not_lt_zero _)⟩ ⟨rfl,rfl,rfl,trivial⟩ rfl trivial rfl rfl ?_
 intro i hii ih;obtain⟨hi,hag⟩:i≤l.length∧∀j,j<i→l[j]? = r[j]?:=hii;refine zai Tk Tryz.func102 ?_;refine zad Tk Tryz.func102 rfl (fun g1=>?_) (fun g1=>?_);rotate_left
 ·have g1:l.length≤i:=by simpa using g1
  have:B=true:=hB.symm.trans (za4 (zbL hn hag g1));subst this;refine zae Tk (r:=bb true) rfl rfl rfl trivial rfl rfl ?_;rfl
 have g1:i<l.length:=by simpa using g1
 have g2:i<r.length:=by omega
 have gl:(l.map insI)[(i:Int).toNat]? = some (insI l[i]):=zak (f:=insI) g1;have gr:(r.map insI)[(i:Int).toNat]? = some (insI r[i]):=zak (f:=insI) g2;have hno:l[i]≠r[i]→B=false:=fun h=>hB.symm.trans (zaQ fun e=>h (by subst e;rfl));have hst:l[i]=r[i]→∀j,j<i+1→l[j]? = r[j]?:=fun h=>zbn hag (by rw[List.getElem?_eq_getElem g1,List.getElem?_eq_getElem g2,h]);have hi1:ii (IntKind.i64.wrap ((i:Int)+1))=ii ((i+1:Nat):Int):=congrArg ii (zaE (n:=zan) (by omega) (by decide));have hxe:=hx _ (List.getElem_mem g1);clear hx;generalize l[i]=a at *;generalize r[i]=b at *;have hq:=@insQ a b;have h1:=fun O=>zdI O a.evs b.evs hxe;have hY:eqQ a b=true→a=b:=fun h=>zaY.1 h;have hN:eqQ a b=false→a≠b:=fun h e=>by rw[za4 e] at h;cases h
 generalize eqQ a b=Q at *;generalize eqQ a.evs b.evs=Q2 at *;refine zat Tk Tryz.func102 zaA rfl ?_;refine zar Tk (by exact⟨by omega,by show (i:Int)<(l.length:Int);omega⟩) ?_;refine zax Tk (gl) ?_;refine zar Tk (by exact⟨by omega,by show (i:Int)<(r.length:Int);omega⟩) ?_;refine zax Tk (gr) ?_;refine zbP Tk (fun d1=>?_) (fun d1=>?_)
 ·refine skT Tk ?_;refine zaC Tk Tryz.func102 (by kernel_rfl) ?_;refine gcT Tk Tryz.func102 rfl ?_;have d1:(a.name.toList==b.name.toList)=false:=by simpa using d1
  have:=hno (hN (by rw[hq,d1];rfl));subst this;refine zae Tk (r:=bb false) rfl rfl rfl trivial rfl rfl ?_;rfl
 have d1:(a.name.toList==b.name.toList)=true:=by simpa using d1
 refine zar Tk (by exact⟨by omega,by show (i:Int)<(l.length:Int);omega⟩) ?_;refine zax Tk (gl) ?_;refine zar Tk (by exact⟨by omega,by show (i:Int)<(r.length:Int);omega⟩) ?_;refine zax Tk (gr) ?_;refine zbP Tk (fun d2=>?_) (fun d2=>?_)
 ·refine zaC Tk Tryz.func102 (by kernel_rfl) ?_;refine gcT Tk Tryz.func102 rfl ?_;have d2:(a.tpl.toList==b.tpl.toList)=false:=by simpa using d2
  have:=hno (hN (by rw[hq,d1,d2];rfl));subst this;refine zae Tk (r:=bb false) rfl rfl rfl trivial rfl rfl ?_;rfl
 have d2:(a.tpl.toList==b.tpl.toList)=true:=by simpa using d2
 refine zar Tk (by exact⟨by omega,by show (i:Int)<(l.length:Int);omega⟩) ?_;refine zax Tk (gl) ?_;refine zar Tk (by exact⟨by omega,by show (i:Int)<(r.length:Int);omega⟩) ?_;refine zax Tk (gr) ?_;refine zaT Tk (fun _=>h1 _) rfl rfl rfl ?_;refine zaC Tk Tryz.func102 (by kernel_rfl) ?_;refine zad Tk Tryz.func102 rfl (fun d3=>?_) (fun d3=>?_)
 ·have d3:Q2=false:=by simpa using d3
  have:=hno (hN (by rw[hq,d1,d2,d3];rfl));subst this;refine zae Tk (r:=bb false) rfl rfl rfl trivial rfl rfl ?_;rfl
 have d3:Q2=true:=by simpa using d3
 refine zah ?_;exact ih (i+1) _ _ ⟨g1,hst (hY (by rw[hq,d1,d2,d3];rfl))⟩ (by omega) ⟨rfl,rfl,hi1,trivial⟩ rfl trivial rfl rfl
theorem znz {α:Type} {l r:List α} (h:(l.length:Int)≠(r.length:Int)):eqQ l r=false:=zaQ fun e=>h (by rw[e])
theorem znJ {α:Type} {l r:List α} {i:Nat} (h1:i<l.length) (h2:i<r.length) (h:l[i]≠r[i]):eqQ l r=false:=zaQ fun e=>h (by subst e;rfl)
set_option maxHeartbeats 16000000 in
theorem zkX (O:List Heap) (a b:Mdl) (ha:mdlOk a) (ht:∀(i:Nat) x y,a.tpls[i]? = some x→b.tpls[i]? = some y→∃c,y.mach=zbw x.mach c):zao Tryz.prog 37 [mdlD a,mdlD b] O (bb (eqQ a b)) [] O:=by
 have h3:=fun O=>zhT O a.comps b.comps (by have:=ha.co;simp only[zan];omega) fun x hx=>by have:=(ha.cok x hx).2;simp only[zan];omega
 have h4:=fun O=>zhT O a.reqs b.reqs (by have:=ha.rq;simp only[zan];omega) fun x hx=>by have:=(ha.rqk x hx).2;simp only[zan];omega
 have hl1:a.evs.length≤zan:=by have:=ha.ev;simp only[zan];omega
 have hl2:a.tpls.length≤zan:=by have:=ha.tp;simp only[zan];omega
 have hl5:a.excs.length≤zan:=by have:=ha.ex;simp only[zan];omega
 have hl6:a.cons.length≤zan:=by have:=ha.cn;simp only[zan];omega
 have hx5:∀x∈a.excs,x.locals.length≤zan:=fun x hx=>by have:=(ha.exk x hx).2;simp only[zan];omega
 have hx6:∀x∈a.cons,x.terms.length≤zan:=fun x hx=>by have:=(ha.cnk x hx).2;simp only[zan];omega
 have htk:=ha.tpk;have hB:eqQ a b=((a.name.toList==b.name.toList)&&(eqQ a.evs b.evs&&(eqQ a.tpls b.tpls&&(eqQ a.comps b.comps&&(eqQ a.reqs b.reqs&&(eqQ a.excs b.excs&&eqQ a.cons b.cons)))))):=by
  rw[Bool.eq_iff_iff,zaY];obtain⟨a0,a1,a2,a3,a4,a5,a6⟩:=a;obtain⟨b0,b1,b2,b3,b4,b5,b6⟩:=b;simp[strQ,zaY]
 clear ha;generalize eqQ a b=B at *;obtain⟨a0,a1,a2,a3,a4,a5,a6⟩:=a;obtain⟨b0,b1,b2,b3,b4,b5,b6⟩:=b;simp only at *;generalize hQ1:eqQ a1 b1=Q1 at hB;generalize hQ2:eqQ a2 b2=Q2 at hB;generalize eqQ a3 b3=Q3 at *;generalize eqQ a4 b4=Q4 at *;generalize hQ5:eqQ a5 b5=Q5 at hB;generalize hQ6:eqQ a6 b6=Q6 at hB;have f0:(a0.toList==b0.toList)=false→B=false:=fun h=>by rw[hB,h];rfl
 have f1:Q1=false→B=false:=fun h=>by rw[hB,h];simp
 have f2:Q2=false→B=false:=fun h=>by rw[hB,h];simp
 have f3:Q3=false→B=false:=fun h=>by rw[hB,h];simp
 have f4:Q4=false→B=false:=fun h=>by rw[hB,h];simp
 have f5:Q5=false→B=false:=fun h=>by rw[hB,h];simp
 have f6:Q6=false→B=false:=fun h=>by rw[hB,h];simp
 refine zaa Tk Tryz.func37 rfl Tryz.call37 Tryz.ntmps37 (Nat.le_of_ble_eq_true rfl) fun E=>?_;refine zai Tk Tryz.func37 ?_;refine zaw Tk Tryz.func37 rfl (fun c0=>?_) (fun c0=>?_)
 ·have:=f0 (by simpa using c0);subst this
  repeat (first|refine gcT Tk Tryz.func37 rfl ?_|refine gkT Tk Tryz.func37 rfl ?_|refine skT Tk ?_|refine gcF Tk Tryz.func37 rfl ?_|refine gkF Tk Tryz.func37 rfl ?_|refine skF Tk ?_)
  refine zae Tk (r:=bb false) rfl rfl rfl trivial rfl rfl ?_;rfl
 have c0:(a0.toList==b0.toList)=true:=by simpa using c0
 refine zaw Tk Tryz.func37 rfl (fun c1=>?_) (fun c1=>?_)
 ·have:=f1 (hQ1.symm.trans (znz (bneT c1)));subst this
  repeat (first|refine gcT Tk Tryz.func37 rfl ?_|refine gkT Tk Tryz.func37 rfl ?_|refine skT Tk ?_|refine gcF Tk Tryz.func37 rfl ?_|refine gkF Tk Tryz.func37 rfl ?_|refine skF Tk ?_)
  refine zae Tk (r:=bb false) rfl rfl rfl trivial rfl rfl ?_;rfl
 have c1:(a1.length:Int)=(b1.length:Int):=bneF c1;refine zaw Tk Tryz.func37 rfl (fun c2=>?_) (fun c2=>?_)
 ·have:=f2 (hQ2.symm.trans (znz (bneT c2)));subst this
  repeat (first|refine gcT Tk Tryz.func37 rfl ?_|refine gkT Tk Tryz.func37 rfl ?_|refine skT Tk ?_|refine gcF Tk Tryz.func37 rfl ?_|refine gkF Tk Tryz.func37 rfl ?_|refine skF Tk ?_)
  refine zae Tk (r:=bb false) rfl rfl rfl trivial rfl rfl ?_;rfl
 have c2:(a2.length:Int)=(b2.length:Int):=bneF c2;refine zaj Tk Tryz.func37 (h3 _) rfl rfl rfl rfl rfl ?_;refine zaw Tk Tryz.func37 rfl (fun c3=>?_) (fun c3=>?_)
 ·have:=f3 (by simpa using c3);subst this
  repeat (first|refine gcT Tk Tryz.func37 rfl ?_|refine gkT Tk Tryz.func37 rfl ?_|refine skT Tk ?_|refine gcF Tk Tryz.func37 rfl ?_|refine gkF Tk Tryz.func37 rfl ?_|refine skF Tk ?_)
  refine zae Tk (r:=bb false) rfl rfl rfl trivial rfl rfl ?_;rfl
 have c3:Q3=true:=by simpa using c3
 refine zaj Tk Tryz.func37 (h4 _) rfl rfl rfl rfl rfl ?_;refine zaw Tk Tryz.func37 rfl (fun c4=>?_) (fun c4=>?_)
 ·have:=f4 (by simpa using c4);subst this
  repeat (first|refine gcT Tk Tryz.func37 rfl ?_|refine gkT Tk Tryz.func37 rfl ?_|refine skT Tk ?_|refine gcF Tk Tryz.func37 rfl ?_|refine gkF Tk Tryz.func37 rfl ?_|refine skF Tk ?_)
  refine zae Tk (r:=bb false) rfl rfl rfl trivial rfl rfl ?_;rfl
 have c4:Q4=true:=by simpa using c4
 refine zaw Tk Tryz.func37 rfl (fun c5=>?_) (fun c5=>?_)
 ·have:=f5 (hQ5.symm.trans (znz (bneT c5)));subst this;refine gcT Tk Tryz.func37 rfl ?_;refine zae Tk (r:=bb false) rfl rfl rfl trivial rfl rfl ?_;rfl
 have c5:(a5.length:Int)=(b5.length:Int):=bneF c5;refine zad Tk Tryz.func37 rfl (fun c6=>?_) (fun c6=>?_)
 ·have:=f6 (hQ6.symm.trans (znz (bneT c6)));subst this;refine zae Tk (r:=bb false) rfl rfl rfl trivial rfl rfl ?_;rfl
 have c6:(a6.length:Int)=(b6.length:Int):=bneF c6;clear h3 h4 f0 f3 f4;refine zah ?_;refine zal (fun i:Nat=>[(2,.own 0 2 0 0),(3,.own 0 3 0 0),(5,ii i)]) (fun _=>[(2,.box (mdlC ⟨a0,a1,a2,a3,a4,a5,a6⟩)),(3,.box (mdlC ⟨b0,b1,b2,b3,b4,b5,b6⟩))]) (fun _=>O) 243
  (fun i=>i≤a1.length∧∀j,j<i→a1[j]? = b1[j]?) (fun i=>a1.length-i) 0 ⟨Nat.zero_le _,fun j hj=>absurd hj (Nat.not_lt_zero _)⟩ ⟨rfl,rfl,rfl,trivial⟩ rfl ⟨rfl,rfl,trivial⟩ rfl rfl ?_
 intro i hii ih;obtain⟨hi,hag⟩:i≤a1.length∧∀j,j<i→a1[j]? = b1[j]?:=hii;refine zai Tk Tryz.func37 ?_;refine zad Tk Tryz.func37 rfl (fun g1=>?_) (fun g1=>?_)
 ·have g1:i<a1.length:=by simpa using g1
  have g2:i<b1.length:=by omega
  have gl:(a1.map evtI)[(i:Int).toNat]? = some (evtI a1[i]):=zak (f:=evtI) g1;have gr:(b1.map evtI)[(i:Int).toNat]? = some (evtI b1[i]):=zak (f:=evtI) g2;have hno:a1[i]≠b1[i]→B=false:=fun h=>f1 (hQ1.symm.trans (znJ g1 g2 h));have hst:a1[i]=b1[i]→∀j,j<i+1→a1[j]? = b1[j]?:=fun h=>zbn hag (by rw[List.getElem?_eq_getElem g1,List.getElem?_eq_getElem g2,h]);have hi1:ii (IntKind.i64.wrap ((i:Int)+1))=ii ((i+1:Nat):Int):=congrArg ii (zaE (n:=zan) (by omega) (by decide));generalize a1[i]=x at *;generalize b1[i]=y at *;obtain⟨x0,x1,x2,x3,x4⟩:=x;obtain⟨y0,y1,y2,y3,y4⟩:=y;refine zat Tk Tryz.func37 zaA rfl ?_;refine zar Tk (by exact⟨by omega,by show (i:Int)<(a1.length:Int);omega⟩) ?_;refine zax Tk (gl) ?_;refine zar Tk (by exact⟨by omega,by show (i:Int)<(b1.length:Int);omega⟩) ?_;refine zax Tk (gr) ?_;refine zaC Tk Tryz.func37 (by kernel_rfl) ?_
  refine zad Tk Tryz.func37 rfl (fun d=>?_) (fun d=>?_)
  ·have d:=hno (zfH evtQ d);subst d;refine zae Tk (r:=bb false) rfl rfl rfl trivial rfl rfl ?_;rfl
  refine zah ?_;exact ih (i+1) _ _ ⟨g1,hst (zeO evtQ d)⟩ (by omega) ⟨rfl,rfl,hi1,trivial⟩ rfl ⟨rfl,rfl,trivial⟩ rfl rfl
 have g1:a1.length≤i:=by simpa using g1
 have e1:Q1=true:=hQ1.symm.trans (za4 (zbL (by omega) hag g1));clear ih hi g1 hag;refine zah ?_;refine zal (fun i:Nat=>[(2,.own 0 2 0 0),(3,.own 0 3 0 0),(6,ii i)]) (fun _=>[(2,.box (mdlC ⟨a0,a1,a2,a3,a4,a5,a6⟩)),(3,.box (mdlC ⟨b0,b1,b2,b3,b4,b5,b6⟩))]) (fun _=>O) 243
  (fun i=>i≤a2.length∧∀j,j<i→a2[j]? = b2[j]?) (fun i=>a2.length-i) 0 ⟨Nat.zero_le _,fun j hj=>absurd hj (Nat.not_lt_zero _)⟩ ⟨rfl,rfl,rfl,trivial⟩ rfl ⟨rfl,rfl,trivial⟩ rfl rfl ?_
 intro i hii ih;obtain⟨hi,hag⟩:i≤a2.length∧∀j,j<i→a2[j]? = b2[j]?:=hii;refine zai Tk Tryz.func37 ?_;refine zad Tk Tryz.func37 rfl (fun g1=>?_) (fun g1=>?_)
 ·have g1:i<a2.length:=by simpa using g1
  have g2:i<b2.length:=by omega
  have gl:(a2.map tplI)[(i:Int).toNat]? = some (tplI a2[i]):=zak (f:=tplI) g1;have gr:(b2.map tplI)[(i:Int).toNat]? = some (tplI b2[i]):=zak (f:=tplI) g2;have hno:a2[i]≠b2[i]→B=false:=fun h=>f2 (hQ2.symm.trans (znJ g1 g2 h));have hst:a2[i]=b2[i]→∀j,j<i+1→a2[j]? = b2[j]?:=fun h=>zbn hag (by rw[List.getElem?_eq_getElem g1,List.getElem?_eq_getElem g2,h]);have hi1:ii (IntKind.i64.wrap ((i:Int)+1))=ii ((i+1:Nat):Int):=congrArg ii (zaE (n:=zan) (by omega) (by decide));obtain⟨c,hc⟩:=ht i _ _ (List.getElem?_eq_getElem g1) (List.getElem?_eq_getElem g2);have hok:=htk _ (List.getElem_mem g1);have hq:eqQ a2[i] b2[i]=((a2[i].name.toList==b2[i].name.toList)&&(eqQ a2[i].locs b2[i].locs&&(eqQ a2[i].evs b2[i].evs&&decide (a2[i].mach.init=c)))):=by
   rw[←zfM,←hc,Bool.eq_iff_iff,zaY];generalize a2[i]=x;generalize b2[i]=y;obtain⟨x0,x1,x2,x3⟩:=x;obtain⟨y0,y1,y2,y3⟩:=y;simp[strQ,zaY]
  generalize a2[i]=x at *;generalize b2[i]=y at *;have h1:=fun O=>zdI O x.locs y.locs (by have:=hok.ll;simp only[zan];omega);have h2:=fun O=>zdI O x.evs y.evs (by have:=hok.el;simp only[zan];omega);have h3:∀O,zao Tryz.prog 33 [extD x.mach,extD y.mach] O (bb (decide (x.mach.init=c))) [] O:=fun O=>by
   rw[hc];exact ziF O x.mach c hok.mo
  have hY:eqQ x y=true→x=y:=fun h=>zaY.1 h;have hN:eqQ x y=false→x≠y:=fun h e=>by rw[za4 e] at h;cases h
  generalize eqQ x y=Q at *;generalize eqQ x.locs y.locs=R1 at *;generalize eqQ x.evs y.evs=R2 at *;generalize decide (x.mach.init=c)=R3 at *;clear hc hok;obtain⟨x0,x1,x2,⟨x3,x4,x5,x6,x7,x8⟩⟩:=x;obtain⟨y0,y1,y2,⟨y3,y4,y5,y6,y7,y8⟩⟩:=y;simp only at hq h1 h2 h3;refine zat Tk Tryz.func37 zaA rfl ?_;refine zar Tk (by exact⟨by omega,by show (i:Int)<(a2.length:Int);omega⟩) ?_;refine zax Tk (gl) ?_;refine zar Tk (by exact⟨by omega,by show (i:Int)<(b2.length:Int);omega⟩) ?_;refine zax Tk (gr) ?_;refine zct Tk rfl rfl rfl ?_;refine zct Tk rfl rfl rfl ?_;refine zaC Tk Tryz.func37 (by kernel_rfl) ?_;refine zaw Tk Tryz.func37 rfl (fun d1=>?_) (fun d1=>?_)
  ·repeat (first|refine gcT Tk Tryz.func37 rfl ?_|refine gkT Tk Tryz.func37 rfl ?_|refine skT Tk ?_|refine gcF Tk Tryz.func37 rfl ?_|refine gkF Tk Tryz.func37 rfl ?_|refine skF Tk ?_)
   have d1:(x0.toList==y0.toList)=false:=by simpa using d1
   have:=hno (hN (by rw[hq,d1];rfl));subst this;refine zae Tk (r:=bb false) rfl rfl rfl trivial rfl rfl ?_;rfl
  have d1:(x0.toList==y0.toList)=true:=by simpa using d1
  refine zaj Tk Tryz.func37 (h1 _) rfl rfl rfl rfl rfl ?_;refine zaw Tk Tryz.func37 rfl (fun d2=>?_) (fun d2=>?_)
  ·repeat (first|refine gcT Tk Tryz.func37 rfl ?_|refine gkT Tk Tryz.func37 rfl ?_|refine skT Tk ?_|refine gcF Tk Tryz.func37 rfl ?_|refine gkF Tk Tryz.func37 rfl ?_|refine skF Tk ?_)
   have d2:R1=false:=by simpa using d2
   have:=hno (hN (by rw[hq,d1,d2];rfl));subst this;refine zae Tk (r:=bb false) rfl rfl rfl trivial rfl rfl ?_;rfl
  have d2:R1=true:=by simpa using d2
  refine zaj Tk Tryz.func37 (h2 _) rfl rfl rfl rfl rfl ?_;refine zaw Tk Tryz.func37 rfl (fun d3=>?_) (fun d3=>?_)
  ·refine gcT Tk Tryz.func37 rfl ?_;have d3:R2=false:=by simpa using d3
   have:=hno (hN (by rw[hq,d1,d2,d3];rfl));subst this;refine zae Tk (r:=bb false) rfl rfl rfl trivial rfl rfl ?_;rfl
  have d3:R2=true:=by simpa using d3
  refine zaj Tk Tryz.func37 (h3 _) rfl rfl rfl rfl rfl ?_;refine zad Tk Tryz.func37 rfl (fun d4=>?_) (fun d4=>?_)
  ·have d4:R3=false:=by simpa using d4
   have:=hno (hN (by rw[hq,d1,d2,d3,d4];rfl));subst this;refine zae Tk (r:=bb false) rfl rfl rfl trivial rfl rfl ?_;rfl
  have d4:R3=true:=by simpa using d4
  refine zah ?_;exact ih (i+1) _ _ ⟨g1,hst (hY (by rw[hq,d1,d2,d3,d4];rfl))⟩ (by omega) ⟨rfl,rfl,hi1,trivial⟩ rfl ⟨rfl,rfl,trivial⟩ rfl rfl
 have g1:a2.length≤i:=by simpa using g1
 have e2:Q2=true:=hQ2.symm.trans (za4 (zbL (by omega) hag g1));clear ih hi g1 hag;refine zah ?_;refine zal (fun i:Nat=>[(2,.own 0 2 0 0),(3,.own 0 3 0 0),(9,ii i)]) (fun _=>[(2,.box (mdlC ⟨a0,a1,a2,a3,a4,a5,a6⟩)),(3,.box (mdlC ⟨b0,b1,b2,b3,b4,b5,b6⟩))]) (fun _=>O) 243
  (fun i=>i≤a5.length∧∀j,j<i→a5[j]? = b5[j]?) (fun i=>a5.length-i) 0 ⟨Nat.zero_le _,fun j hj=>absurd hj (Nat.not_lt_zero _)⟩ ⟨rfl,rfl,rfl,trivial⟩ rfl ⟨rfl,rfl,trivial⟩ rfl rfl ?_
 intro i hii ih;obtain⟨hi,hag⟩:i≤a5.length∧∀j,j<i→a5[j]? = b5[j]?:=hii;refine zai Tk Tryz.func37 ?_;refine zad Tk Tryz.func37 rfl (fun g1=>?_) (fun g1=>?_)
 ·have g1:i<a5.length:=by simpa using g1
  have g2:i<b5.length:=by omega
  have gl:(a5.map nexI)[(i:Int).toNat]? = some (nexI a5[i]):=zak (f:=nexI) g1;have gr:(b5.map nexI)[(i:Int).toNat]? = some (nexI b5[i]):=zak (f:=nexI) g2;have hno:a5[i]≠b5[i]→B=false:=fun h=>f5 (hQ5.symm.trans (znJ g1 g2 h));have hst:a5[i]=b5[i]→∀j,j<i+1→a5[j]? = b5[j]?:=fun h=>zbn hag (by rw[List.getElem?_eq_getElem g1,List.getElem?_eq_getElem g2,h]);have hi1:ii (IntKind.i64.wrap ((i:Int)+1))=ii ((i+1:Nat):Int):=congrArg ii (zaE (n:=zan) (by omega) (by decide));have hul:=hx5 _ (List.getElem_mem g1);generalize a5[i]=x at *;generalize b5[i]=y at *;obtain⟨xn,xl⟩:=x;obtain⟨yn,yl⟩:=y;simp only at hul;refine zat Tk Tryz.func37 zaA rfl ?_;refine zar Tk (by exact⟨by omega,by show (i:Int)<(a5.length:Int);omega⟩) ?_;refine zax Tk (gl) ?_;refine zar Tk (by exact⟨by omega,by show (i:Int)<(b5.length:Int);omega⟩) ?_;refine zax Tk (gr) ?_;refine zct Tk rfl rfl rfl ?_
  refine zct Tk rfl rfl rfl ?_;refine zaC Tk Tryz.func37 (by kernel_rfl) ?_;refine zaw Tk Tryz.func37 rfl (fun d1=>?_) (fun d1=>?_)
  ·have:=hno fun e=>by have e1:xn=yn:=(by injection e);rw[strQ,za4 e1] at d1;cases d1
   subst this;refine gcT Tk Tryz.func37 rfl ?_;refine zae Tk (r:=bb false) rfl rfl rfl trivial rfl rfl ?_;rfl
  have d1:xn=yn:=zeO strQ d1;refine zad Tk Tryz.func37 rfl (fun d3=>?_) (fun d3=>?_)
  ·have:=hno fun e=>bneT d3 (by have e1:xl=yl:=(by injection e);rw[e1]);subst this;refine zae Tk (r:=bb false) rfl rfl rfl trivial rfl rfl ?_;rfl
  have d3:(xl.length:Int)=(yl.length:Int):=bneF d3;refine zah ?_;refine zal (fun j:Nat=>[(2,.own 0 2 0 0),(3,.own 0 3 0 0),(9,ii i),(10,.own 0 10 0 0),(11,.own 0 11 0 0),(12,ii j)]) (fun _=>[(2,.box (mdlC ⟨a0,a1,a2,a3,a4,a5,a6⟩)),(3,.box (mdlC ⟨b0,b1,b2,b3,b4,b5,b6⟩)),(10,.box [.i (strI xn),.i (.sl 2 xl.length (xl.map nlcI))]),(11,.box [.i (strI yn),.i (.sl 2 yl.length (yl.map nlcI))])]) (fun _=>O) 243
   (fun j=>j≤xl.length∧∀q,q<j→xl[q]? = yl[q]?) (fun j=>xl.length-j) 0 ⟨Nat.zero_le _,fun j hj=>absurd hj (Nat.not_lt_zero _)⟩ ⟨rfl,rfl,rfl,rfl,rfl,rfl,trivial⟩ rfl ⟨rfl,rfl,rfl,rfl,trivial⟩ rfl rfl ?_
  intro j hjj ih2;obtain⟨hj,hag2⟩:j≤xl.length∧∀q,q<j→xl[q]? = yl[q]?:=hjj;refine zai Tk Tryz.func37 ?_;refine zad Tk Tryz.func37 rfl (fun g3=>?_) (fun g3=>?_);rotate_left
  ·have g3:xl.length≤j:=by simpa using g3
   have e:xl=yl:=zbL (by omega) hag2 g3;refine zah ?_;exact ih (i+1) _ _ ⟨g1,hst (by subst d1 e;rfl)⟩ (by omega) ⟨rfl,rfl,hi1,trivial⟩ rfl ⟨rfl,rfl,trivial⟩ rfl rfl
  have g3:j<xl.length:=by simpa using g3
  have g4:j<yl.length:=by omega
  have gu:(xl.map nlcI)[(j:Int).toNat]? = some (nlcI xl[j]):=zak (f:=nlcI) g3;have gw:(yl.map nlcI)[(j:Int).toNat]? = some (nlcI yl[j]):=zak (f:=nlcI) g4;have hno2:xl[j]≠yl[j]→B=false:=fun h=>hno fun e=>h (by have e1:xl=yl:=(by injection e);subst e1;rfl);have hst2:xl[j]=yl[j]→∀q,q<j+1→xl[q]? = yl[q]?:=fun h=>zbn hag2 (by rw[List.getElem?_eq_getElem g3,List.getElem?_eq_getElem g4,h]);have hj1:ii (IntKind.i64.wrap ((j:Int)+1))=ii ((j+1:Nat):Int):=congrArg ii (zaE (n:=zan) (by omega) (by decide));generalize xl[j]=u at *;generalize yl[j]=w at *;obtain⟨u1,u2⟩:=u;obtain⟨w1,w2⟩:=w;refine zat Tk Tryz.func37 zaA rfl ?_;refine zar Tk (by exact⟨by omega,by show (j:Int)<(xl.length:Int);omega⟩) ?_;refine zax Tk (gu) ?_;refine zar Tk (by exact⟨by omega,by show (j:Int)<(yl.length:Int);omega⟩) ?_;refine zax Tk (gw) ?_;refine zaC Tk Tryz.func37 (by kernel_rfl) ?_
  refine zad Tk Tryz.func37 rfl (fun d5=>?_) (fun d5=>?_)
  ·have d5:=hno2 (zfH nlcQ d5);subst d5;refine zae Tk (r:=bb false) rfl rfl rfl trivial rfl rfl ?_;rfl
  refine zah ?_;exact ih2 (j+1) _ _ ⟨g3,hst2 (zeO nlcQ d5)⟩ (by omega) ⟨rfl,rfl,rfl,rfl,rfl,hj1,trivial⟩ rfl ⟨rfl,rfl,rfl,rfl,trivial⟩ rfl rfl
 have g1:a5.length≤i:=by simpa using g1
 have e5:Q5=true:=hQ5.symm.trans (za4 (zbL (by omega) hag g1));clear ih hi g1 hag;refine zah ?_;refine zal (fun i:Nat=>[(2,.own 0 2 0 0),(3,.own 0 3 0 0),(13,ii i)]) (fun _=>[(2,.box (mdlC ⟨a0,a1,a2,a3,a4,a5,a6⟩)),(3,.box (mdlC ⟨b0,b1,b2,b3,b4,b5,b6⟩))]) (fun _=>O) 243
  (fun i=>i≤a6.length∧∀j,j<i→a6[j]? = b6[j]?) (fun i=>a6.length-i) 0 ⟨Nat.zero_le _,fun j hj=>absurd hj (Nat.not_lt_zero _)⟩ ⟨rfl,rfl,rfl,trivial⟩ rfl ⟨rfl,rfl,trivial⟩ rfl rfl ?_
 intro i hii ih;obtain⟨hi,hag⟩:i≤a6.length∧∀j,j<i→a6[j]? = b6[j]?:=hii;refine zai Tk Tryz.func37 ?_;refine zad Tk Tryz.func37 rfl (fun g1=>?_) (fun g1=>?_)
 ·have g1:i<a6.length:=by simpa using g1
  have g2:i<b6.length:=by omega
  have gl:(a6.map ncnI)[(i:Int).toNat]? = some (ncnI a6[i]):=zak (f:=ncnI) g1;have gr:(b6.map ncnI)[(i:Int).toNat]? = some (ncnI b6[i]):=zak (f:=ncnI) g2;have hno:a6[i]≠b6[i]→B=false:=fun h=>f6 (hQ6.symm.trans (znJ g1 g2 h));have hst:a6[i]=b6[i]→∀j,j<i+1→a6[j]? = b6[j]?:=fun h=>zbn hag (by rw[List.getElem?_eq_getElem g1,List.getElem?_eq_getElem g2,h]);have hi1:ii (IntKind.i64.wrap ((i:Int)+1))=ii ((i+1:Nat):Int):=congrArg ii (zaE (n:=zan) (by omega) (by decide));have hul:=hx6 _ (List.getElem_mem g1);generalize a6[i]=x at *;generalize b6[i]=y at *;obtain⟨xn,xl,xb⟩:=x;obtain⟨yn,yl,yb⟩:=y;simp only at hul;refine zat Tk Tryz.func37 zaA rfl ?_;refine zar Tk (by exact⟨by omega,by show (i:Int)<(a6.length:Int);omega⟩) ?_;refine zax Tk (gl) ?_;refine zar Tk (by exact⟨by omega,by show (i:Int)<(b6.length:Int);omega⟩) ?_;refine zax Tk (gr) ?_;refine zct Tk rfl rfl rfl ?_
  refine zct Tk rfl rfl rfl ?_;refine zaC Tk Tryz.func37 (by kernel_rfl) ?_;refine zaw Tk Tryz.func37 rfl (fun d1=>?_) (fun d1=>?_)
  ·have:=hno fun e=>by have e1:xn=yn:=(by injection e);rw[strQ,za4 e1] at d1;cases d1
   subst this
   repeat (first|refine gcT Tk Tryz.func37 rfl ?_|refine gkT Tk Tryz.func37 rfl ?_|refine skT Tk ?_|refine gcF Tk Tryz.func37 rfl ?_|refine gkF Tk Tryz.func37 rfl ?_|refine skF Tk ?_)
   refine zae Tk (r:=bb false) rfl rfl rfl trivial rfl rfl ?_;rfl
  have d1:xn=yn:=zeO strQ d1;refine zaw Tk Tryz.func37 rfl (fun d2=>?_) (fun d2=>?_)
  ·have:=hno fun e=>bneT d2 (by injection e);subst this;refine gcT Tk Tryz.func37 rfl ?_;refine zae Tk (r:=bb false) rfl rfl rfl trivial rfl rfl ?_;rfl
  have eb2:xb=yb:=bneF d2;refine zad Tk Tryz.func37 rfl (fun d3=>?_) (fun d3=>?_)
  ·have:=hno fun e=>bneT d3 (by have e1:xl=yl:=(by injection e);rw[e1]);subst this;refine zae Tk (r:=bb false) rfl rfl rfl trivial rfl rfl ?_;rfl
  have d3:(xl.length:Int)=(yl.length:Int):=bneF d3;refine zah ?_;refine zal (fun j:Nat=>[(2,.own 0 2 0 0),(3,.own 0 3 0 0),(13,ii i),(14,.own 0 14 0 0),(15,.own 0 15 0 0),(16,ii j)]) (fun _=>[(2,.box (mdlC ⟨a0,a1,a2,a3,a4,a5,a6⟩)),(3,.box (mdlC ⟨b0,b1,b2,b3,b4,b5,b6⟩)),(14,.box [.i (strI xn),.i (.sl 2 xl.length (xl.map ntmI)),ii xb]),(15,.box [.i (strI yn),.i (.sl 2 yl.length (yl.map ntmI)),ii yb])]) (fun _=>O) 243
   (fun j=>j≤xl.length∧∀q,q<j→xl[q]? = yl[q]?) (fun j=>xl.length-j) 0 ⟨Nat.zero_le _,fun j hj=>absurd hj (Nat.not_lt_zero _)⟩ ⟨rfl,rfl,rfl,rfl,rfl,rfl,trivial⟩ rfl ⟨rfl,rfl,rfl,rfl,trivial⟩ rfl rfl ?_
  intro j hjj ih2;obtain⟨hj,hag2⟩:j≤xl.length∧∀q,q<j→xl[q]? = yl[q]?:=hjj;refine zai Tk Tryz.func37 ?_;refine zad Tk Tryz.func37 rfl (fun g3=>?_) (fun g3=>?_);rotate_left
  ·have g3:xl.length≤j:=by simpa using g3
   have e:xl=yl:=zbL (by omega) hag2 g3;refine zah ?_;exact ih (i+1) _ _ ⟨g1,hst (by subst d1 eb2 e;rfl)⟩ (by omega) ⟨rfl,rfl,hi1,trivial⟩ rfl ⟨rfl,rfl,trivial⟩ rfl rfl
  have g3:j<xl.length:=by simpa using g3
  have g4:j<yl.length:=by omega
  have gu:(xl.map ntmI)[(j:Int).toNat]? = some (ntmI xl[j]):=zak (f:=ntmI) g3;have gw:(yl.map ntmI)[(j:Int).toNat]? = some (ntmI yl[j]):=zak (f:=ntmI) g4;have hno2:xl[j]≠yl[j]→B=false:=fun h=>hno fun e=>h (by have e1:xl=yl:=(by injection e);subst e1;rfl);have hst2:xl[j]=yl[j]→∀q,q<j+1→xl[q]? = yl[q]?:=fun h=>zbn hag2 (by rw[List.getElem?_eq_getElem g3,List.getElem?_eq_getElem g4,h]);have hj1:ii (IntKind.i64.wrap ((j:Int)+1))=ii ((j+1:Nat):Int):=congrArg ii (zaE (n:=zan) (by omega) (by decide));generalize xl[j]=u at *;generalize yl[j]=w at *;obtain⟨u1,u2⟩:=u;obtain⟨w1,w2⟩:=w;refine zat Tk Tryz.func37 zaA rfl ?_;refine zar Tk (by exact⟨by omega,by show (j:Int)<(xl.length:Int);omega⟩) ?_;refine zax Tk (gu) ?_;refine zar Tk (by exact⟨by omega,by show (j:Int)<(yl.length:Int);omega⟩) ?_;refine zax Tk (gw) ?_;refine zaC Tk Tryz.func37 (by kernel_rfl) ?_
  refine zad Tk Tryz.func37 rfl (fun d5=>?_) (fun d5=>?_)
  ·have d5:=hno2 (zfH ntmQ d5);subst d5;refine zae Tk (r:=bb false) rfl rfl rfl trivial rfl rfl ?_;rfl
  refine zah ?_;exact ih2 (j+1) _ _ ⟨g3,hst2 (zeO ntmQ d5)⟩ (by omega) ⟨rfl,rfl,rfl,rfl,rfl,hj1,trivial⟩ rfl ⟨rfl,rfl,rfl,rfl,trivial⟩ rfl rfl
 have g1:a6.length≤i:=by simpa using g1
 have e6:Q6=true:=hQ6.symm.trans (za4 (zbL (by omega) hag g1));clear ih hi g1 hag;have:B=true:=by rw[hB,c0,e1,e2,c3,c4,e5,e6];rfl
 subst this;refine zae Tk (r:=bb true) rfl rfl rfl trivial rfl rfl ?_;rfl
theorem zir {a b:Ext} {c:Int} (h:b=zbw a c):a=zbw b a.init:=by subst h;rfl
theorem zqc {g:Nat} (hg:zda g) {ty:TypeId} {fr:Nat×Nat} (O:List Heap) (k:Sk22) (sl:List D) (n:Mdl) (hk:sk22Ok k) (hn:mdlOk n)
  (ht:∀(i:Nat) x y,(zca k).tpls[i]? = some x→n.tpls[i]? = some y→∃c,y.mach=zbw x.mach c)
  (hch:∀O,zba g (ptab ty fr) Tryz.prog 12 [mdlD (zca k),.agg sl] O (mdlD n) [] O) (hsl:∃a b c d,sl=[.i (.v (.int .u8 a)),.i (.v (.int .u8 b)),.i (.v (.int .u8 c)),.i (.v (.int .u8 d))]) :
  zba g (ptab ty fr) Tryz.prog 9 [zuu k,.agg sl] O (bb true) [] O:=by
 have hkn:=fun O=>zxD hg (ty:=ty) (fr:=fr) O;have hmk:=fun O=>zyN hg (ty:=ty) (fr:=fr) O k hk;have hm:=znw hk;obtain⟨b0,b1,b2,b3,rfl⟩:=hsl;clear hk;generalize zca k=m at *;have h1:∀O,zao Tryz.prog 36 [mdlD m,mdlD m] O (bb true) [] O:=fun O=>by
  have h:=zm5 O m m hm fun i x y hx hy=>⟨x.mach.init,by rw[hx] at hy;cases hy;rfl⟩;rwa [za4 rfl] at h
 have h2:=fun O=>zm5 O m n hm ht;have h3:=fun O=>zkX O m n hm ht;have h4:∀O,zao Tryz.prog 36 [mdlD n,mdlD m] O (bb (eqQ m n)) [] O:=fun O=>by
  have h:=zm5 O n m hn fun i x y hx hy=>by
   obtain⟨c,hc⟩:=ht i y x hy hx;exact⟨y.mach.init,zir hc⟩
  rwa [zvB] at h
 clear hm hn ht;generalize eqQ m n=Q at *;refine zaM [] Tk Tryz.func9 rfl Tryz.call9 Tryz.ntmps9 (Nat.le_of_ble_eq_true rfl) fun E hE=>?_;refine zai Tk Tryz.func9 ?_;refine zbM Tk Tryz.func9 hE (hkn _) rfl rfl rfl rfl rfl rfl ?_;refine gcF Tk Tryz.func9 rfl ?_;refine zbM Tk Tryz.func9 hE (hmk _) rfl rfl rfl rfl rfl rfl ?_;refine zbM Tk Tryz.func9 hE (hch _) rfl rfl rfl rfl rfl rfl ?_;refine zat Tk Tryz.func9 zaA rfl ?_;refine zaT Tk (fun _=>h1 _) rfl rfl rfl ?_;refine skT Tk ?_;refine zaT Tk (fun _=>h2 _) rfl rfl rfl ?_;refine zaT Tk (fun _=>h3 _) rfl rfl rfl ?_;refine zbP Tk (fun _=>?_) (fun h=>absurd h (by simp));refine zaT Tk (fun _=>h4 _) rfl rfl rfl ?_;refine zaT Tk (fun _=>h3 _) rfl rfl rfl ?_;refine zaC Tk Tryz.func9 (by kernel_rfl) ?_;refine zae Tk (r:=bb (Q==Q)) rfl rfl rfl trivial rfl rfl ?_;simp
structure Slp where
 kind:Int
 k:Int
 how:Int
 name:Int
abbrev slC (s:Slp):List D:=[.i (.v (.int .u8 s.kind)),.i (.v (.int .u8 s.k)),.i (.v (.int .u8 s.how)),.i (.v (.int .u8 s.name))]
abbrev slD (s:Slp):D:=.agg (slC s)
structure slOk (s:Slp):Prop where
 kind:0≤s.kind∧s.kind≤255
 k:0≤s.k∧s.k≤255
 how:0≤s.how∧s.how≤255
 name:0≤s.name∧s.name≤255
structure chgOk (m:Mdl):Prop where
 ok:mdlOk m
 mv:∀t∈m.tpls,t.mach.moves.length≤19
 ev:0<m.evs.length
 tl:∀t∈m.tpls,0<t.locs.length∧0<t.evs.length∧t.evs.length≤1000
 cl:∀x∈m.comps,0<x.evs.length
 rl:∀x∈m.reqs,0<x.evs.length
 xl:∀x∈m.excs,0<x.locals.length∧x.locals.length≤1000
 nl:∀x∈m.cons,0<x.terms.length
structure chgR (m n:Mdl):Prop where
 ok:mdlOk n
 mv:∀t∈n.tpls,t.mach.moves.length≤19
 ma:∀(i:Nat) x y,m.tpls[i]? = some x→n.tpls[i]? = some y→∃c,y.mach=zbw x.mach c
theorem zdz {m n:Mdl} (h:chgOk m) (ok:mdlOk n) (ht:n.tpls=m.tpls):chgR m n:=by
 refine⟨ok,by rw[ht];exact h.mv,fun i x y hx hy=>⟨x.mach.init,?_⟩⟩;rw[ht,hx] at hy
 cases hy
 rfl
def chgN:List ByteArray:=[⟨#[]⟩,⟨#[120,32,121]⟩,⟨#[109]⟩,⟨#[105,48]⟩,⟨#[116,48]⟩,⟨#[101,49]⟩,⟨#[97]⟩,⟨#[115,48]⟩,⟨#[110,111,98,111,100,121]⟩,⟨#[97,95,110,97,109,101,95,116,104,97,116,95,105,115,95,51,51,95,98,121,116,101,115,95,108,111,110,103,95,104,101,114,101]⟩]
theorem zx8:∀s∈chgN,s.size≤33:=by decide
theorem zeh {d:Int} (hd:0≤d∧d≤255):∃s:ByteArray,s.size≤33∧(chgN.map fun s=>[strI s])[((IntKind.i64.wrap d).tmod (10:Int)).toNat]? = some [strI s]∧(0≤(IntKind.i64.wrap d).tmod (10:Int)∧(IntKind.i64.wrap d).tmod (10:Int)<10):=by
 have hw:IntKind.i64.wrap d=d:=w64 (by omega) (by omega);have h1:=Int.emod_nonneg d (show (10:Int)≠0 by decide);have h2:=Int.emod_lt_of_pos d (show (0:Int)<10 by decide);rw[hw,Int.tmod_eq_emod_of_nonneg hd.1];have hl:(d%10).toNat<chgN.length:=by show _<10;omega
 refine⟨chgN[(d%10).toNat],zx8 _ (List.getElem_mem hl),?_,h1,h2⟩;rw[List.getElem?_map,List.getElem?_eq_getElem hl];rfl
section
variable {c:Cx} {s:St} {k:List Item} {ops:Array Oper} {rest:List Nat} {o:Oper}
theorem zed (hT:TOk c.P c.T) (hfn:c.P.funcs[c.f]? = some c.fn) {i:Nat} (A:Ask) (ho:ops[i]? = some o) (hg:o.guard=none) (hx:exec c.T s o=A) (h:GM c (cont c.T c.stop ops rest s o A k)):GM c (.pause ops i rest o s k):=by
 subst hx;exact zcM hT hfn ho hg (fun K ρ a w hi=>⟨K,ρ,hi⟩) h
end
theorem zze {g:Nat} (hg:zda g) {ty:TypeId} {fr:Nat×Nat} (m:Mdl) (s:Slp) (hm:chgOk m) (hs:slOk s) (h0:s.kind.tmod 7=0) :
  ∃n,chgR m n∧∀O,zba g (ptab ty fr) Tryz.prog 12 [mdlD m,slD s] O (mdlD n) [] O:=by
 obtain⟨nm,hz,hge,hgi⟩:=zeh hs.name;refine⟨⟨nm,m.evs,m.tpls,m.comps,m.reqs,m.excs,m.cons⟩,zdz hm {hm.ok with nm:=by simp only[zan];omega} rfl,fun O=>?_⟩;obtain⟨b0,b1,b2,b3⟩:=s;obtain⟨a0,a1,a2,a3,a4,a5,a6⟩:=m;clear hm hs;simp only at h0 hge hgi;refine zaM [200014] Tk Tryz.func12 rfl Tryz.call12 Tryz.ntmps12 (Nat.le_of_ble_eq_true rfl) fun E hE=>?_;refine zai Tk Tryz.func12 ?_;refine zed Tk Tryz.func12 (.alt (.new [(14,.arr 9 1 10 (chgN.map fun s=>[strI s]) true)] (.osl 0 14)) (.new [] (.i (.sl 1 10 (chgN.map fun s=>[strI s]))))) rfl rfl (by kernel_rfl) ?_;refine zaf Tk Tryz.func12 (by decide) ?_;refine zaf Tk Tryz.func12 (by exact hgi) ?_;refine zaq Tk Tryz.func12 (hge) ?_;refine zaf Tk Tryz.func12 (by decide) ?_;refine zad Tk Tryz.func12 rfl (fun _=>?_) (fun h=>absurd h (by simpa using h0))
 refine zae Tk (r:=mdlD ⟨nm,a1,a2,a3,a4,a5,a6⟩) rfl rfl rfl trivial rfl rfl ?_;rfl
end Go.AI
namespace Go.Proofs.YtnojpbbaohoadaaGreatDoor
open Go.ChangeShapes Go.WideShapes Go.ChangeAt Go.RowKit Go.Deep Go.WideElems
set_option maxRecDepth 100000
section
variable {H:Type} {enc:TypeId×Value→H} {W:World}
theorem zrU {r:Reach} {b0:Nat} {v:Value} {d:DataW H} {p:List MemPlace} (hv:Value.okWide Tryz.prog W r b0 29 v) (h:DataW.Trod enc Tryz.prog W 0 (fun _=>true) true 29 v d p) :
  ∃s:AI.Slp,AI.slOk s∧∀ρ sh,AI.RepD (KW W) ρ sh v (AI.slD s):=by
 obtain⟨cs,rfl,_⟩:=okWide_struct Tryz.underlying29 hv;obtain⟨n,hn⟩:=h;obtain⟨is,hr,a,b,c,e,rfl,⟨t,rfl,ht⟩,⟨u,rfl,hu⟩,⟨x,rfl,hx⟩,⟨z,rfl,hz⟩⟩:=zeB Tryz.underlying29 (z0:=1) (z1:=1) (z2:=1) (z3:=1) (by kernel_rfl) (by kernel_rfl) (by kernel_rfl) (by kernel_rfl) (by kernel_rfl) rfl rfl rfl rfl
  (zcu Tryz.underlying5) (zcu Tryz.underlying5) (zcu Tryz.underlying5) (zcu Tryz.underlying5) n _ _ hn
 refine⟨⟨t,u,x,z⟩,⟨wf_u8 ht,wf_u8 hu,wf_u8 hx,wf_u8 hz⟩,fun ρ sh=>?_⟩;have:=AI.RepD.agg (AI.RepDL.ofL (ρ:=ρ) (sh:=sh) hr);simpa [Value.cells] using this
end
end Go.Proofs.YtnojpbbaohoadaaGreatDoor
namespace Go.AI
open Go.Proofs
set_option maxRecDepth 20000
theorem zfl {d:Int} (hd:0≤d∧d≤255) {n:Nat} (hn:0<n):∃q:Nat,q<n∧(IntKind.i64.wrap d).tmod (n:Int)=(q:Int):=by
 have hw:IntKind.i64.wrap d=d:=w64 (by omega) (by omega);have h1:=Int.emod_nonneg d (show (n:Int)≠0 by omega);have h2:=Int.emod_lt_of_pos d (show (0:Int)<(n:Int) by omega);rw[hw,Int.tmod_eq_emod_of_nonneg hd.1];exact⟨(d%(n:Int)).toNat,by omega,by omega⟩
theorem zey {α:Type} {P:α→Prop} {l:List α} {q:Nat} {y:α} (h:∀x∈l,P x) (hy:P y):∀x∈l.set q y,P x:=fun x hx=>by
 rcases List.mem_or_eq_of_mem_set hx with h1|h1
 ·exact h x h1
 ·rw[h1];exact hy
theorem zjz (l:List ByteArray) (k:Nat):I.sl 1 (l.length-k) ((l.map fun s=>[strI s]).drop k)=zjA (l.drop k):=by
 rw[←List.map_drop,←List.length_drop]
theorem zx2 {m:Mdl} (hm:chgOk m) {q:Nat} (hq:q<m.tpls.length) {t:Tpl} (ht:tplOk t) (hma:∃c,t.mach=zbw m.tpls[q].mach c) :
  chgR m ⟨m.name,m.evs,m.tpls.set q t,m.comps,m.reqs,m.excs,m.cons⟩:=by
 refine⟨{hm.ok with tp:=by simp;exact hm.ok.tp,tpk:=zey hm.ok.tpk ht},zey hm.mv (by obtain⟨c,hc⟩:=hma;rw[hc];exact hm.mv _ (List.getElem_mem hq)),fun i x y hx hy=>?_⟩;have hy:(m.tpls.set q t)[i]? = some y:=hy;rw[List.getElem?_set] at hy
 by_cases e:q=i
 ·subst e;rw[if_pos rfl,if_pos hq] at hy;rw[List.getElem?_eq_getElem hq] at hx
  cases hx
  cases hy
  exact hma
 ·rw[if_neg e,hx] at hy
  cases hy
  exact⟨x.mach.init,rfl⟩
theorem znf {α:Type} {l:List α} {i:Nat} {x:α} (h:l[i]? = some x):l.set i x=l:=by
 obtain⟨h1,h2⟩:=List.getElem?_eq_some_iff.1 h;subst h2;exact List.set_getElem_self h1
def chgB:List Int:=[0,65536,65537,-65536,-65537]
theorem zx4 {d:Int} (hd:0≤d∧d≤255):∃v:Int,(chgB.map fun v=>[vi v])[((IntKind.i64.wrap d).tmod (5:Int)).toNat]? = some [vi v]∧(0≤(IntKind.i64.wrap d).tmod (5:Int)∧(IntKind.i64.wrap d).tmod (5:Int)<5):=by
 have hw:IntKind.i64.wrap d=d:=w64 (by omega) (by omega);have h1:=Int.emod_nonneg d (show (5:Int)≠0 by decide);have h2:=Int.emod_lt_of_pos d (show (0:Int)<5 by decide);rw[hw,Int.tmod_eq_emod_of_nonneg hd.1];have hl:(d%5).toNat<chgB.length:=by show _<5;omega
 refine⟨chgB[(d%5).toNat],?_,h1,h2⟩;rw[List.getElem?_map,List.getElem?_eq_getElem hl];rfl
end Go.AI
