/- The layer of abstract runs, part 1. -/
import Derived.Orders
import Derived.Calls
import Derived.Laws.AppendOwn
import Derived.Laws.OwnMore
set_option linter.unusedSimpArgs false
set_option linter.unusedVariables false
set_option linter.all false
set_option maxHeartbeats 4000000
namespace Go.AI
inductive I where
 |v (x:Value)
 |sl (es n:Nat) (xs:List (List I))
 |ptr (es:Nat) (xs:List (List I)) (i off:Nat)
inductive D where
 |dead
 |i (x:I)
 |agg (cs:List D)
 |tup (cs:List D)
 |own (dep nm i off:Nat)
 |osl (dep nm:Nat)
 |psl (nm k:Nat)
 |xsl (es n:Nat) (xs:List (List I))
 |bt
 |bf
 |fn (f:Fn) (first cap:List D)
inductive MC where
 |b (es:List (Value×Bool))
 |i (k:IntKind) (es:List (Value×Int))
inductive KK where
 |str
 |int (k:IntKind)
 |pair (k:IntKind)
inductive Ob where
 |mp (kk:KK) (m:MC)
 |box (cs:List D)
 |tb (T:Nat) (cs:List D)
 |arr (ty es n:Nat) (xs:List (List I)) (wr:Bool)
abbrev Heap:=List (Nat×Ob)
abbrev Kn:=Nat→Nat→Option Value
def Kn.le (K K':Kn):Prop:=∀b o x,K b o=some x→K' b o=some x
theorem Kn.le_refl (K:Kn):K.le K:=fun _ _ _ h=>h
theorem Kn.le_trans {K K' K'':Kn} (h:K.le K') (h':K'.le K''):K.le K'':=fun _ _ _ e=>h' _ _ _ (h _ _ _ e)
mutual
inductive Rep (K:Kn):Value→I→Prop
 |v {x:Value}:x.oneCell'=true→Rep K x (.v x)
 |nil {es:Nat} {a:Option Addr}:Rep K (.slice a 0 0) (.sl es 0 [])
 |sl {b o cap es n:Nat} {cs:List Value} {xs:List (List I)}:RepL K cs xs.flatten→(∀d∈xs,d.length=es) →
   (∀j c,cs[j]? = some c→K b (o+j)=some c)→n≤cap→xs.length=n→Rep K (.slice (some ⟨b,o,none⟩) n cap) (.sl es n xs)
 |ptr {b o es i off:Nat} {cs:List Value} {xs:List (List I)}:RepL K cs xs.flatten→(∀d∈xs,d.length=es) →
   (∀j c,cs[j]? = some c→K b (o+j)=some c)→Rep K (.pointer (some ⟨b,o+i*es+off,none⟩)) (.ptr es xs i off)
inductive RepL (K:Kn):List Value→List I→Prop
 |nil:RepL K [] []
 |cons {x:Value} {d:I} {xs:List Value} {ds:List I}:Rep K x d→RepL K xs ds→RepL K (x::xs) (d::ds)
end
mutual
theorem Rep.mono {K K':Kn} (h:K.le K'):∀{v:Value} {d:I},Rep K v d→Rep K' v d
 |_,_,.v e=>.v e
 |_,_,.nil=>.nil
 |_,_,.sl r e k c l=>.sl (RepL.mono h r) e (fun j c hc=>h _ _ _ (k j c hc)) c l
 |_,_,.ptr r e k=>.ptr (RepL.mono h r) e (fun j c hc=>h _ _ _ (k j c hc))
theorem RepL.mono {K K':Kn} (h:K.le K'):∀{v:List Value} {d:List I},RepL K v d→RepL K' v d
 |_,_,.nil=>.nil
 |_,_,.cons r rs=>.cons (Rep.mono h r) (RepL.mono h rs)
end
theorem Rep.one {K:Kn} {v:Value} {d:I} (h:Rep K v d):v.oneCell'=true:=by
 cases h with
 |v e=>exact e
 |_=>rfl
theorem RepL.one {K:Kn}:∀{v:List Value} {d:List I},RepL K v d→∀x∈v,x.oneCell'=true
 |_,_,.cons r rs,x,hx=>by
  rcases List.mem_cons.1 hx with rfl|hx
  ·exact r.one
  ·exact rs.one x hx
theorem RepL.length {K:Kn}:∀{v:List Value} {d:List I},RepL K v d→v.length=d.length
 |_,_,.nil=>rfl
 |_,_,.cons _ rs=>by simp[rs.length]
theorem RepL.append {K:Kn}:∀{v:List Value} {d:List I} {v':List Value} {d':List I},RepL K v d→RepL K v' d' → RepL K (v++v') (d++d')
 |_,_,_,_,.nil,h=>h
 |_,_,_,_,.cons r rs,h=>.cons r (rs.append h)
theorem RepL.drop {K:Kn}:∀{v:List Value} {d:List I} (n:Nat),RepL K v d→RepL K (v.drop n) (d.drop n)
 |_,_,0,h=>h
 |_,_,_+1,.nil=>.nil
 |_,_,n+1,.cons _ rs=>rs.drop n
theorem RepL.take {K:Kn}:∀{v:List Value} {d:List I} (n:Nat),RepL K v d→RepL K (v.take n) (d.take n)
 |_,_,0,_=>.nil
 |_,_,_+1,.nil=>.nil
 |_,_,n+1,.cons r rs=>.cons r (rs.take n)
structure Loc where
 block:Nat
 cap:Nat
 base:Option Addr
inductive Sh where
 |mp
 |box
 |arr (es len:Nat)
def Ob.sh:Ob→Sh
 |.mp _ _=>.mp
 |.box _=>.box
 |.tb _ _=>.box
 |.arr _ es n _ _=>.arr es n
def look {α:Type}:List (Nat×α)→Nat→Option α
 |[],_=>none
 |(k,x)::r,t=>bif Nat.beq k t then some x else look r t
theorem zac {α:Type} (k:Nat) (x:α) (r:List (Nat×α)) (t:Nat):look ((k,x)::r) t=if k=t then some x else look r t:=by
 simp only[look]
 by_cases h:k=t
 ·subst h;simp
 ·rw[if_neg h]
  cases hb:Nat.beq k t
  ·rfl
  ·exact absurd (Nat.eq_of_beq_eq_true hb) h
def zab (S:List Heap) (dep nm:Nat):Option Ob:=match S[dep]? with
 |some H=>look H nm
 |none=>none
def shape (S:List Heap) (dep nm:Nat):Option Sh:=(zab S dep nm).map Ob.sh
mutual
inductive RepD (K:Kn) (ρ:Nat→Nat→Loc) (sh:Nat→Nat→Option Sh):Value→D→Prop
 |dead (x:Value):RepD K ρ sh x .dead
 |i {x:Value} {d:I}:Rep K x d→RepD K ρ sh x (.i d)
 |agg {cs:List Value} {ds:List D}:RepDL K ρ sh cs ds→RepD K ρ sh (.agg cs.toArray) (.agg ds)
 |tup {cs:List Value} {ds:List D}:RepDL K ρ sh cs ds→RepD K ρ sh (.tuple cs.toArray) (.tup ds)
 |box {dep nm off:Nat}:sh dep nm=some .box→RepD K ρ sh (.pointer (some ⟨(ρ dep nm).block,off,none⟩)) (.own dep nm 0 off)
 |arr {dep nm i off es len:Nat}:sh dep nm=some (.arr es len)→i<len→RepD K ρ sh (.pointer (some ⟨(ρ dep nm).block,i*es+off,none⟩)) (.own dep nm i off)
 |osl {dep nm es len:Nat}:sh dep nm=some (.arr es len)→RepD K ρ sh (.slice (ρ dep nm).base len (ρ dep nm).cap) (.osl dep nm)
 |omp {dep nm:Nat}:sh dep nm=some .mp→RepD K ρ sh (.map (some (ρ dep nm).block)) (.osl dep nm)
 |xsl {b o es n:Nat} {cs:List Value} {xs:List (List I)}:RepL K cs xs.flatten→(∀d∈xs,d.length=es) →
   (∀j c,cs[j]? = some c→K b (o+j)=some c)→xs.length=n→RepD K ρ sh (.slice (some ⟨b,o,none⟩) n n) (.xsl es n xs)
 |xnil {es:Nat} {a:Option Addr}:RepD K ρ sh (.slice a 0 0) (.xsl es 0 [])
 |psl {nm k es len:Nat}:sh 0 nm=some (.arr es len)→k≤len→RepD K ρ sh (.slice (ρ 0 nm).base k (ρ 0 nm).cap) (.psl nm k)
 |bt:RepD K ρ sh (.bool true) .bt
 |bf:RepD K ρ sh (.bool false) .bf
 |fn {f:Fn} {first cap:List Value} {d e:List D}:RepDL K ρ sh first d→RepDL K ρ sh cap e→RepD K ρ sh (.func f first.toArray cap.toArray) (.fn f d e)
inductive RepDL (K:Kn) (ρ:Nat→Nat→Loc) (sh:Nat→Nat→Option Sh):List Value→List D→Prop
 |nil:RepDL K ρ sh [] []
 |cons {x:Value} {d:D} {xs:List Value} {ds:List D}:RepD K ρ sh x d→RepDL K ρ sh xs ds→RepDL K ρ sh (x::xs) (d::ds)
end
structure Stays (K K':Kn) (ρ ρ':Nat→Nat→Loc) (sh sh':Nat→Nat→Option Sh):Prop where
 le:K.le K'
 shp:∀dep nm x,sh dep nm=some x→sh' dep nm=some x
 loc:∀dep nm x,sh dep nm=some x→ρ' dep nm=ρ dep nm
mutual
theorem RepD.stays {K K':Kn} {ρ ρ':Nat→Nat→Loc} {sh sh':Nat→Nat→Option Sh} (h:Stays K K' ρ ρ' sh sh') :
  ∀{v:Value} {d:D},RepD K ρ sh v d→RepD K' ρ' sh' v d
 |_,_,.dead x=>.dead x
 |_,_,.i r=>.i (r.mono h.le)
 |_,_,.agg r=>.agg (RepDL.stays h r)
 |_,_,.tup r=>.tup (RepDL.stays h r)
 |_,_,.box e=>by rw[←h.loc _ _ _ e];exact .box (h.shp _ _ _ e)
 |_,_,.arr e l=>by rw[←h.loc _ _ _ e];exact .arr (h.shp _ _ _ e) l
 |_,_,.osl e=>by rw[←h.loc _ _ _ e];exact .osl (h.shp _ _ _ e)
 |_,_,.omp e=>by rw[←h.loc _ _ _ e];exact .omp (h.shp _ _ _ e)
 |_,_,.psl e l=>by rw[←h.loc _ _ _ e];exact .psl (h.shp _ _ _ e) l
 |_,_,.xsl r e k l=>.xsl (r.mono h.le) e (fun j c hc=>h.le _ _ _ (k j c hc)) l
 |_,_,.xnil=>.xnil
 |_,_,.bt=>.bt
 |_,_,.bf=>.bf
 |_,_,.fn r s=>.fn (RepDL.stays h r) (RepDL.stays h s)
theorem RepDL.stays {K K':Kn} {ρ ρ':Nat→Nat→Loc} {sh sh':Nat→Nat→Option Sh} (h:Stays K K' ρ ρ' sh sh') :
  ∀{v:List Value} {d:List D},RepDL K ρ sh v d→RepDL K' ρ' sh' v d
 |_,_,.nil=>.nil
 |_,_,.cons r rs=>.cons (RepD.stays h r) (RepDL.stays h rs)
end
section
variable {K:Kn} {ρ:Nat→Nat→Loc} {sh:Nat→Nat→Option Sh}
theorem RepDL.length:∀{v:List Value} {d:List D},RepDL K ρ sh v d→v.length=d.length
 |_,_,.nil=>rfl
 |_,_,.cons _ rs=>by simp[rs.length]
theorem RepDL.append:∀{v:List Value} {d:List D} {v':List Value} {d':List D},RepDL K ρ sh v d→RepDL K ρ sh v' d' → RepDL K ρ sh (v++v') (d++d')
 |_,_,_,_,.nil,h=>h
 |_,_,_,_,.cons r rs,h=>.cons r (rs.append h)
theorem RepDL.drop:∀{v:List Value} {d:List D} (n:Nat),RepDL K ρ sh v d→RepDL K ρ sh (v.drop n) (d.drop n)
 |_,_,0,h=>h
 |_,_,_+1,.nil=>.nil
 |_,_,n+1,.cons _ rs=>rs.drop n
theorem RepDL.take:∀{v:List Value} {d:List D} (n:Nat),RepDL K ρ sh v d→RepDL K ρ sh (v.take n) (d.take n)
 |_,_,0,_=>.nil
 |_,_,_+1,.nil=>.nil
 |_,_,n+1,.cons r rs=>.cons r (rs.take n)
theorem RepDL.get:∀{v:List Value} {d:List D} {n:Nat} {x:D},RepDL K ρ sh v d→d[n]? = some x→∃y,v[n]? = some y∧RepD K ρ sh y x
 |_,_,0,_,.cons r _,h=>by simp at h;subst h;exact⟨_,rfl,r⟩
 |_,_,n+1,_,.cons _ rs,h=>by simp at h;exact rs.get (n:=n) h
theorem RepDL.ofL:∀{v:List Value} {d:List I},RepL K v d→RepDL K ρ sh v (d.map .i)
 |_,_,.nil=>.nil
 |_,_,.cons r rs=>.cons (.i r) (RepDL.ofL rs)
end
def D.cells:D→List D
 |.agg cs=>cs
 |d=>[d]
def D.one:D→Bool
 |.dead|.agg _|.tup _=>false
 |_=>true
def D.ones (l:List D):Bool:=l.all D.one
section
variable {K:Kn} {ρ:Nat→Nat→Loc} {sh:Nat→Nat→Option Sh}
theorem RepD.one {v:Value} {d:D} (h:RepD K ρ sh v d) (hd:d.one=true):v.oneCell'=true:=by
 cases h with
 |i r=>exact r.one
 |dead|agg|tup=>simp[D.one] at hd
 |_=>rfl
theorem RepDL.one:∀{v:List Value} {d:List D},RepDL K ρ sh v d→D.ones d=true→∀x∈v,x.oneCell'=true
 |_,_,.cons r rs,h,x,hx=>by
  simp only[D.ones,List.all_cons,Bool.and_eq_true] at h;rcases List.mem_cons.1 hx with rfl|hx
  ·exact r.one h.1
  ·exact rs.one h.2 x hx
theorem zkI {v:Value} (h:v.oneCell'=true):v.cells = #[v]:=by
 cases v<;>simp_all [Value.cells,Value.oneCell']
theorem RepD.cells {v:Value} {d:D} (h:RepD K ρ sh v d) (hd:D.ones d.cells=true):RepDL K ρ sh v.cells.toList d.cells:=by
 cases h with
 |agg r=>exact r
 |dead|tup=>simp[D.cells,D.ones,D.one] at hd
 |i r=>rw[zkI r.one];exact .cons (.i r) .nil
 |box e=>exact .cons (.box e) .nil
 |arr e l=>exact .cons (.arr e l) .nil
 |osl e=>exact .cons (.osl e) .nil
 |omp e=>exact .cons (.omp e) .nil
 |xsl a b c d=>exact .cons (.xsl a b c d) .nil
 |psl e l=>exact .cons (.psl e l) .nil
 |xnil=>exact .cons .xnil .nil
 |bt=>exact .cons .bt .nil
 |bf=>exact .cons .bf .nil
 |fn a b=>exact .cons (.fn a b) .nil
end
end Go.AI
