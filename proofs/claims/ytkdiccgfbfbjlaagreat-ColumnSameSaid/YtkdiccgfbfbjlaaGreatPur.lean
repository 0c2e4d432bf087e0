import Derived.Test.YtkdiccgfbfbjlaaGreatL10
import Derived.Test.YtkdiccgfbfbjlaaGreatL9
namespace Go.Proofs.YtkdiccgfbfbjlaaGreat
open Go.Ev Go
def jh (ns:List Tx):Bool:=ns.any fun s=>decide ((s.length:Int)>200)
mutual
def EL (deep:Nat):Ty→Int
 | .mk _ ns ks _ _ _=>if decide ((deep:Int)>20)||decide ((ks.length:Int)>300)||decide ((ns.length:Int)>300) then 1000 else if jh ns then 1000 else Dp (deep+1) 1 ks
def Dp (deep:Nat) (n:Int):List Ty→Int
 | []=>n
 |k::r=>if decide (n+EL deep k>1000) then 1000 else Dp deep (n+EL deep k) r
end
def FJ (t:Ty):Bool:=decide (EL 1 t≤150)
mutual
def EA (deep:Nat):Va→Int
 | .mk _ _ _ b ks=>if decide ((deep:Int)>20)||decide ((ks.length:Int)>400)||decide ((b.length:Int)>5000) then 1000 else EK (deep+1) (1+((b.length / 50:Nat):Int)) ks
def EK (deep:Nat) (n:Int):List Va→Int
 | []=>n
 |k::r=>if decide (n+EA deep k>1000) then 1000 else EK deep (n+EA deep k) r
end
def HK (s:Tx) (l:List Tx):Bool:=l.any fun x=>x==s
def DK (ns:List Tx):Nat→List Tx→Bool
 |_,[]=>true
 |i,s::r=> !(s==[]||decide ((s.length:Int)>100))&& !HK s (ns.take i)&&DK ns (i+1) r
def Fa (t:Ty):Bool:=
 if t.kind==10 then(t.kids.length:Int)==1 else if t.kind==11 then(t.kids.length:Int)==2 else if t.kind==12 then(t.kids.length:Int)==t.names.length
 else if t.kind==13 then decide ((t.kids.length:Int)≥1)&&decide ((t.kids.length:Int)≤255) else(t.kids.length:Int)==0
def Hg (t:Ty):Int:=
 if((t.kind==16||t.kind==17)&&(decide (t.len<1)||decide (t.len>4096)))||(!(t.kind==16||t.kind==17)&&t.len !=0) then 1
 else if t.kind==14 then(if decide (t.prec<1)||decide (t.prec>18)||decide (t.scale<0)||decide (t.scale>t.prec) then 1 else 0)
 else if t.prec !=0||t.scale !=0 then 1 else 0
def B1 (t:Ty):Int:=
 if t.kind==5||t.kind==6 then 5 else if decide (t.kind<0)||decide (t.kind>17) then 1
 else if !Fa t||(t.kind !=12&&decide ((t.names.length:Int)>0)) then 1 else if DK t.names 0 t.names then Hg t else 1
mutual
def BP (deep:Nat) (n:Int):Ty→Int×Int
 | .mk k ns ks l p s=>if decide ((deep:Int)>16)||decide (n≥100) then(n,4) else if B1 (.mk k ns ks l p s) !=0 then(n,B1 (.mk k ns ks l p s)) else Cq (deep+1) (n+1) ks
def Cq (deep:Nat) (n:Int):List Ty→Int×Int
 | []=>(n,0)
 |k::r=>if(BP deep n k).2 !=0 then BP deep n k else Cq deep (BP deep n k).1 r
end
def Ck (k:Int):Bool:=k==7||k==8||k==16||k==17
def FE (k:Int):Bool:= !(k==10||k==11||k==12||k==13)
def HZ (v b:Int):Bool:=decide (v≥ -b)&&decide (v≤b-1)
def GO (s n:Int):Bool:=decide (s≥ -1099511627776)&&decide (s≤1099511627776)&&decide (n≥0)&&decide (n≤999999999)
def EX (t:Ty) (i n:Int):Bool:=
 if t.kind==0 then i==0||i==1
 else if t.kind==1 then HZ i 128
 else if t.kind==2 then HZ i 32768
 else if t.kind==3||t.kind==15 then HZ i 2147483648
 else if t.kind==4 then true
 else if t.kind==14 then decide ((lV i.natAbs:Int)≤t.prec)
 else if t.kind==9 then GO i n
 else if t.kind==13 then decide (i≥0)&&decide (i<t.kids.length)
 else i==0
def QS (c:UInt8):Bool:=FA .u8 (c.toNat:Int) 6 !=2
def Ey:Tx→Nat
 | []=>0
 |c::b=>(if QS c then 1 else 0)+Ey b
def Dy (t:Ty) (vi:Int) (i:Nat):Option Ty:=
 if t.kind==10 then t.kids[0]? else if t.kind==11 then t.kids[i % 2]? else if t.kind==13 then(if decide (vi<0) then none else t.kids[vi.toNat]?) else t.kids[i]?
def FB (t:Ty) (n:Int):Int:=
 if t.kind==10 then(if decide (n>16384) then 4 else 0)
 else if t.kind==11 then(if n.tmod 2 !=0 then 1 else if decide (n>32768) then 4 else 0)
 else if t.kind==12 then(if n !=t.kids.length then 1 else 0)
 else if t.kind==13 then(if n !=1 then 1 else 0)
 else 0
def Hk (t:Ty) (i n:Int):Bool:= !(n !=0&&t.kind !=9)&&EX t i n
def As (t:Ty) (v:Va):Int:=
 if v.null then(if v.i !=0||v.n !=0||decide ((v.b.length:Int)>0)||decide ((v.kids.length:Int)>0) then 1 else 0)
 else if !Hk t v.i v.n||(decide ((v.b.length:Int)>0)&& !Ck t.kind)||(decide ((v.kids.length:Int)>0)&&FE t.kind) then 1
 else if decide ((v.b.length:Int)>4096)||((t.kind==16||t.kind==17)&&decide ((Ey v.b:Int)>t.len)) then 4
 else FB t v.kids.length
mutual
def Cn (t:Ty):Va→Int
 | .mk nl i n b ks=>if As t (.mk nl i n b ks) !=0 then As t (.mk nl i n b ks) else if nl then 0 else De t i 0 ks
def De (t:Ty) (vi:Int) (j:Nat):List Va→Int
 | []=>0
 | k::r=>if t.kind==11&&j % 2==0&&k.null then 1 else match Dy t vi j with
  |none=>0
  |some x=>if Cn x k !=0 then Cn x k else De t vi (j+1) r
end
def H4 (n:Int):List Va→Bool
 | []=>true
 |v::r=>if decide (n+EA 1 v>1000) then false else H4 (n+EA 1 v) r
mutual
def Pg:Va→Bool
 | .mk _ i _ b ks=>decide (-9223372036854775808≤i)&&decide (i<9223372036854775808)&&decide (b.length<9223372036854775808)&&decide (ks.length<9223372036854775808)&&C6 ks
def C6:List Va→Bool
 | []=>true
 |k::r=>Pg k&&C6 r
end
structure Col where
 here:List Bool
 ints:List Int
 ns:List Int
 texts:List Tx
 lens:List Int
def Col.nil:Col:=⟨[],[],[],[],[]⟩
def Col.d (c:Col):D:= .agg [.sl (c.here.map D.bool),.sl (c.ints.map (D.int .i64)),.sl (c.ns.map (D.int .i64)),.sl (c.texts.map BA),.sl (c.lens.map (D.int .i64))]
def Col.more (kd i n:Int) (b:Tx) (m:Nat) (c:Col):Col:=
 ⟨c.here++[true],if Ck kd||kd==10||kd==11||kd==12 then c.ints else c.ints++[i],if kd==9 then c.ns++[n] else c.ns,if Ck kd then c.texts++[b] else c.texts,
  if kd==10 then c.lens++[(m:Int)] else if kd==11 then c.lens++[((m / 2:Nat):Int)] else c.lens⟩
def Col.gone (c:Col):Col:=⟨c.here++[false],c.ints,c.ns,c.texts,c.lens⟩
def Ga (kd vi:Int) (kn:List Nat) (j:Nat):Option Nat:=if kd==12 then kn[j]? else if kd==11 then kn[j % 2]? else if kd==13 then(if decide (vi<0) then none else kn[vi.toNat]?) else kn[0]?
abbrev Nod:=Ty×List Nat×Int×Int
mutual
def GV (nd:List Nod) (p:Nat) (cs:List Col):Va→Option (List Col×Bool)
 | .mk nl i n b ks=>match nd[p]?,cs[p]? with
  |some x,some c=>if decide (c.here.length≥16384) then some (cs,false) else if nl then some (cs.set p c.gone,true) else Dk nd x.1.kind i x.2.1 0 (cs.set p (c.more x.1.kind i n b ks.length)) ks
  |_,_=>none
def Dk (nd:List Nod) (kd vi:Int) (kn:List Nat) (j:Nat) (cs:List Col):List Va→Option (List Col×Bool)
 | []=>some (cs,true)
 | k::r=>match Ga kd vi kn j with
  |none=>none
  | some q=>match GV nd q cs k with
   |none=>none
   |some (c1,true)=>Dk nd kd vi kn (j+1) c1 r
   |some (c1,false)=>some (c1,false)
end
def Cv (nd:List Nod) (cs:List Col):List Va→Option (List Col×Bool)
 | []=>some (cs,true)
 | v::r=>match GV nd 0 cs v with
  |none=>none
  |some (c1,true)=>Cv nd c1 r
  |some (c1,false)=>some (c1,false)
def Gy (t:Ty) (v:Va):Int:=if Cn t v==0&&v.null then 1 else Cn t v
def Bg (t:Ty):List Va→Int
 | []=>0
 |v::r=>if Gy t v !=0 then Gy t v else Bg t r
def P7 (t:Ty) (vs:List Va):Option (List Col×Bool):=Cv (Bq 0 (-1) 1 t) (List.replicate t.size Col.nil) vs
def Dx (t:Ty) (vs:List Va):Option D:=
 if(BP 1 0 t).2 !=0 then some (.tup [.sl [],.int .i64 (BP 1 0 t).2])
 else if Bg t vs !=0 then some (.tup [.sl [],.int .i64 (Bg t vs)])
 else(P7 t vs).map fun p=>if p.2 then .tup [.sl (p.1.map Col.d),.int .i64 0] else .tup [.sl [],.int .i64 4]
def Wv:List D→Option Tx
 | []=>some []
 | .int .u8 n::r=>if 0≤n∧n<256 then(Wv r).map (UInt8.ofNat n.toNat:: ·) else none
 |_=>none
def Ha (f:D→Option Va):List D→Option (List Va)
 | []=>some []
 | d::r=>match f d,Ha f r with
  |some t,some l=>some (t::l)
  |_,_=>none
def Sc:Nat→D→Option Va
 |0,_=>none
 | n+1,.agg [.bool nl,.int .i64 i,.int .i64 m,.sl b,.sl kids]=>match Wv b,Ha (Sc n) kids with
  |some b,some ks=>some (.mk nl i m b ks)
  |_,_=>none
 |_,_=>none
def Dc (t:Ty) (vs:List Va):Prop:=FJ t=true∧vs.length≤200∧C6 vs=true
open Classical in
noncomputable def Dw (ds:List D):Option V:=
 if h:∃ t vs,ds=[Ty.d t,.sl (vs.map Va.d)]∧Dc t vs then(Dx h.choose h.choose_spec.choose).map V.d else none
