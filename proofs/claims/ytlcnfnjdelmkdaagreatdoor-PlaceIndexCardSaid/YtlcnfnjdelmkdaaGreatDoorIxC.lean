import Derived.Test.YtlcnfnjdelmkdaaGreatDoorIxA
namespace Go.Proofs.YtlcnfnjdelmkdaaGreatDoor
open Go Go.Ev
set_option maxHeartbeats 8000000
set_option maxRecDepth 10000
def boxO (k:Nat):Option Sv→List (Cel×V)
 |none=>[]
 |some s=>boxS 0 k s
theorem ownS (acc:List Sv) (s:Sv):ownZ 15 ((acc++[s]).map Sv.d)= .own false 15 (acc.map Sv.d++[s.d]):=by
 rw[List.map_append,List.map_cons,List.map_nil,k9]
theorem tk15 (a b c d e f g h i j k l m n o:D):List.take 15 [a,b,c,d,e,f,g,h,i,j,k,l,m,n,o]=[a,b,c,d,e,f,g,h,i,j,k,l,m,n,o]:=rfl
theorem ln15 (a b c d e f g h i j k l m n o:D):[a,b,c,d,e,f,g,h,i,j,k,l,m,n,o].length=15:=rfl
theorem t7 (f:Fld):textD (some f)= .d (.tup [.sl (f.b.map byteD),.bool true]):=rfl
theorem t8:textD none= .d (.tup [.sl [],.bool false]):=rfl
abbrev ixE (gs:List Fld) (i:Nat) (acc:List Sv):List (Nat×V):=[(2,.ref 0 2 0),(9,ownZ 15 (acc.map Sv.d)),(30,.d (.sl (gs.map bD))),(31,.d (.int .i64 ((gs.length:Int)))),(32,.d (.int .i64 ((i:Int))))]
theorem bfj (n:Nd) (hs:n.scale≤18) (gs:List Fld) (hn:gs.length≤4096) (g:Fld) (i:Nat) (acc:List Sv) (o:Option Sv) (hi:gs[i]? =some g) (hlt:i<gs.length) (ha:acc.length≤i) (hb:g.b.length≤2000) (r:List Fld)
   (ih:∀ (acc:List Sv) (o:Option Sv),acc.length≤i+1→go X_al [.c (.loop tg),.b 0,.c (r4.seq .ret)] ⟨ixE gs (i+1) acc,boxN 0 2 n++boxO 16 o⟩=some (resI (idxM n.ty n.scale r acc),[])):
   go X_al [.c (.loop tg),.b 0,.c (r4.seq .ret)] ⟨ixE gs i acc,boxN 0 2 n++boxO 16 o⟩=some (resI (idxM n.ty n.scale (g::r) acc),[]):=by
 obtain⟨p1,p2⟩:=bo g.b;have q1:=bh g.b y8;have q2:=di (aa g.b).1 2 y8 (fun f hf=>by have:=p1 f hf;omega)
 rw[show((2:Nat):Int)=2 from rfl] at q2
 have q3:=fun f (hf:f∈(aa g.b).1)=>o8 n f.b (by have:=p1 f hf;omega) hs (fun _ f' hf'=>by
   have hm:f'∈(aa f.b).1:=by
     unfold partF at hf';split at hf'
     · cases hf'
     · exact fa _ _ hf'
   have:=(bo f.b).1 f' hm;have:=p1 f hf;omega)
 have d_a:decide ((i:Int)<gs.length)=true:=by simp<;>omega
 unfold idxM;rw[go_loop];unfold cd at q1;generalize aa g.b=pr at *;obtain⟨fs,e⟩:=pr;dsimp only at *;by_cases h:e≠0
 · rw[if_pos h]
   have nz:((e:Int) !=0)=true:=by simp;omega
   rcases o with _|⟨cnt,null,has,mn,mx,sums,sum⟩<;>
     (simp only[boxO,boxN,boxS,List.append_nil,List.cons_append,List.nil_append]
      simp(maxSteps:=2000000) (disch:=first|exact y7|fail) only[go_sem,X_al,d_a,ap,ae,zx,zy,hi,Option.map_some,bD,q1,nz]
      rfl)
 rw[if_neg h];have h:e=0:=Decidable.of_not_not h;subst h;rw[show((0:Nat):Int)=0 from rfl] at q1
 cases hl:lastM fs 2 2 with
 | none=>
   rw[hl,t8] at q2;rcases o with _|⟨cnt,null,has,mn,mx,sums,sum⟩<;>
     (simp only[boxO,boxN,boxS,List.append_nil,List.cons_append,List.nil_append]
      simp(maxSteps:=2000000) (disch:=first|exact y7|fail) only[go_sem,X_al,d_a,ap,ae,zx,zy,hi,Option.map_some,bD,q1,q2]
      rfl)
 | some f=>
   rw[hl,t7] at q2;have r3:=q3 f (fa _ _ hl);unfold resS at r3;dsimp only;have ih2:=ih (acc++[(rdM n.ty n.scale f.b).1]) (some (rdM n.ty n.scale f.b).1) (by simp;omega)
   unfold ixE at ih2;rw[show(((i+1:Nat)):Int)=(i:Int)+1 by omega,ownS] at ih2
   generalize rdM n.ty n.scale f.b=q at *;obtain⟨s,e⟩:=q;dsimp only at *;by_cases h:e≠0
   · rw[if_pos h]
     have nz:((e:Int) !=0)=true:=by simp;omega
     obtain⟨sc,sn,sh,w1,w2,ss,sm⟩:=s;unfold Nd.d at r3;unfold Sv.d Sv.cs at r3;rcases o with _|⟨cnt,null,has,mn,mx,sums,sum⟩<;>
       (simp only[boxO,boxN,boxS,List.append_nil,List.cons_append,List.nil_append]
        simp(maxSteps:=2000000) (disch:=first|exact y7|fail) only[go_sem,X_al,d_a,ap,ae,zx,zy,hi,Option.map_some,bD,q1,q2,r3,nz]
        rfl)
   rw[if_neg h];have h:e=0:=Decidable.of_not_not h;subst h;rw[show((0:Nat):Int)=0 from rfl] at r3
   rw[← ih2];obtain⟨sc,sn,sh,w1,w2,ss,sm⟩:=s;unfold Nd.d at r3;unfold Sv.d Sv.cs at r3;unfold ixE;cases acc with
   | nil=>
     rcases o with _|⟨cnt,null,has,mn,mx,sums,sum⟩<;>
       (simp only[boxO,boxN,boxS,List.append_nil,List.cons_append,List.nil_append,List.map_nil,ai]
        simp(maxSteps:=2000000) (disch:=first|exact y7|fail) only[go_sem,X_al,d_a,ap,ae,zx,zy,hi,Option.map_some,bD,q1,q2,r3,Sv.d,Sv.cs,tk15,ln15])
   | cons y acc=>
     simp only[List.length_cons] at ha;rw[List.map_cons];generalize y.d=w;rcases o with _|⟨cnt,null,has,mn,mx,sums,sum⟩<;>
       (simp only[boxO,boxN,boxS,List.append_nil,List.cons_append,List.nil_append,am]
        simp(maxSteps:=2000000) (disch:=first|exact y7|fail) only[go_sem,X_al,d_a,ap,ae,zx,zy,hi,Option.map_some,bD,q1,q2,r3,Sv.d,Sv.cs,tk15,ln15,List.cons_append])
theorem uh (n:Nd) (hs:n.scale≤18) (gs:List Fld) (hn:gs.length≤4096) (hb:∀ g∈gs,g.b.length≤2000):∀ (r:List Fld) (i:Nat) (acc:List Sv) (o:Option Sv),gs.drop i=r→acc.length≤i→i≤gs.length→
  go X_al [.c (.loop tg),.b 0,.c (r4.seq .ret)] ⟨ixE gs i acc,boxN 0 2 n++boxO 16 o⟩=some (resI (idxM n.ty n.scale r acc),[])
 | [],i,acc,o,hr,ha,hi=>by
  have:=bd hr;have:i=gs.length:=y8;subst this;have d_a:decide ((gs.length:Int)<gs.length)=false:=by simp<;>omega
  rw[go_loop];unfold ixE;have e:resI (idxM n.ty n.scale [] acc)= .d (.tup [.sl (acc.map Sv.d),.int .i64 0]):=rfl;rw[e];cases acc with
  | nil=>
   rcases o with _|⟨cnt,null,has,mn,mx,sums,sum⟩<;>
    (simp only[boxO,boxN,boxS,List.append_nil,List.cons_append,List.nil_append,List.map_nil,ai]
     simp(maxSteps:=2000000) (disch:=first|exact y7|fail) only[go_sem,X_al,d_a])
  | cons y acc=>
   rcases o with _|⟨cnt,null,has,mn,mx,sums,sum⟩<;>
    (simp only[boxO,boxN,boxS,List.append_nil,List.cons_append,List.nil_append,List.map_cons,am]
     simp(maxSteps:=2000000) (disch:=first|exact y7|fail) only[go_sem,X_al,d_a])
 | g::r,i,acc,o,hr,ha,hi=>by
  obtain⟨h1,h2,h3⟩:=cc hr;exact bfj n hs gs hn g i acc o h2 y8 ha (hb g (List.mem_of_getElem? h2)) r fun acc o hc=>uh n hs gs hn hb r (i+1) acc o h3 hc h1
theorem gm (n:Nd) (b:List UInt8) (hl:b.length≤100000) (hs:n.scale≤18) (hb:∀ g∈(aa b).1,g.b.length≤2000):evL cfg n_al 0 [.d n.d,.d (.sl ((b).map byteD))] []=some (resI (readI n.ty n.scale b),[]):=by
 obtain⟨p1,p2⟩:=bo b;have q1:=bh b y8;have q2:=bfx (aa b).1 1 y8 (fun f hf=>by have:=p1 f hf;omega)
 rw[show((1:Nat):Int)=1 from rfl] at q2
 have hall:(allM (aa b).1 1).length≤4096:=aai (List.length_filter_le _ _) p2;have lp:=uh n hs (allM (aa b).1 1) hall (fun g hg=>hb g (abb.1 hg).1) (allM (aa b).1 1) 0 [] none rfl (aaj _) (aaj _)
 rw[o_al];unfold readI;unfold cd at q1;unfold Nd.d;generalize aa b=pr at *;obtain⟨fs,e⟩:=pr;dsimp only at *;by_cases h:e≠0
 · rw[if_pos h]
   have nz:((e:Int) !=0)=true:=by simp;omega
   simp(maxSteps:=2000000) (disch:=first|exact y7|fail) only[go_sem,X_al,c_al,q1,nz]
   rfl
 rw[if_neg h];have h:e=0:=Decidable.of_not_not h;subst h;rw[show((0:Nat):Int)=0 from rfl] at q1
 have d_c:decide (((allM fs 1).length:Int)>4096)=false:=by simp<;>omega
 unfold ixE at lp;simp only[boxO,boxN,List.append_nil] at lp;generalize allM fs 1=gs at *;rw[← lp];cases gs with
 | nil=>
   rw[List.map_nil,ai] at q2;have z:decide ((0:Int)>4096)=false:=rfl;simp(maxSteps:=2000000) (disch:=first|exact y7|fail) only[go_sem,X_al,c_al,q1,q2,z,List.map_nil,ai]
 | cons g gs=>
   rw[List.map_cons,am] at q2;rw[List.length_cons] at d_c;simp(maxSteps:=2000000) (disch:=first|exact y7|fail) only[go_sem,X_al,c_al,q1,q2,d_c,List.map_cons,List.map_nil,ai,zj,List.length_cons]
set_option maxRecDepth 10000
abbrev irE (gs:List Fld) (i:Nat) (acc:List Sv):List (Nat×V):=[(2,.ref 0 2 0),(8,.d (.sl (gs.map bD))),(9,ownZ 15 (acc.map Sv.d)),(10,.d (.int .i64 ((i:Int))))]
theorem bfs (t:Ty) (sc:Nat) (hsc:t.scale=(sc:Int)) (hs:sc≤18) (ho:ownM t=0) (gs:List Fld) (hn:gs.length≤4096) (g:Fld) (i:Nat) (acc:List Sv) (o:Option Sv) (hi:gs[i]? =some g) (hlt:i<gs.length) (ha:acc.length≤i) (hb:g.b.length≤2000) (r:List Fld)
   (ih:∀ (acc:List Sv) (o:Option Sv),acc.length≤i+1→go X_ai [.c (.loop ti),.b 0,.c (r5.seq .ret)] ⟨irE gs (i+1) acc,boxT 2 t++boxO 15 o⟩=some (resI (idxM (bare t) sc r acc),[])):
   go X_ai [.c (.loop ti),.b 0,.c (r5.seq .ret)] ⟨irE gs i acc,boxT 2 t++boxO 15 o⟩=some (resI (idxM (bare t) sc (g::r) acc),[]):=by
 obtain⟨p1,p2⟩:=bo g.b;have q1:=al g.b y8;have q2:=ck (aa g.b).1 2 y8;rw[show((2:Nat):Int)=2 from rfl] at q2
 have q3:=fun f (hf:f∈(aa g.b).1)=>m8 t sc hsc hs ho f.b (by have:=p1 f hf;omega)
 have d_a:decide ((i:Int)<gs.length)=true:=by simp<;>omega
 unfold idxM;rw[go_loop];unfold cd at q1;generalize aa g.b=pr at *;obtain⟨fs,e⟩:=pr;dsimp only at *;by_cases h:e≠0
 · rw[if_pos h]
   have nz:((e:Int) !=0)=true:=by simp;omega
   rcases o with _|⟨cnt,null,has,mn,mx,sums,sum⟩<;>
     (simp only[boxO,boxT,boxS,List.append_nil,List.cons_append,List.nil_append]
      simp(maxSteps:=2000000) (disch:=first|exact y7|fail) only[go_sem,X_ai,d_a,ap,ae,zx,zy,hi,Option.map_some,bD,q1,nz]
      rfl)
 rw[if_neg h];have h:e=0:=Decidable.of_not_not h;subst h;rw[show((0:Nat):Int)=0 from rfl] at q1
 cases hl:lastM fs 2 2 with
 | none=>
   rw[hl,t8] at q2;rcases o with _|⟨cnt,null,has,mn,mx,sums,sum⟩<;>
     (simp only[boxO,boxT,boxS,List.append_nil,List.cons_append,List.nil_append]
      simp(maxSteps:=2000000) (disch:=first|exact y7|fail) only[go_sem,X_ai,d_a,ap,ae,zx,zy,hi,Option.map_some,bD,q1,q2]
      rfl)
 | some f=>
   rw[hl,t7] at q2;have r3:=q3 f (fa _ _ hl);unfold resS at r3;dsimp only;have ih2:=ih (acc++[(rdM (bare t) sc f.b).1]) (some (rdM (bare t) sc f.b).1) (by simp;omega)
   unfold irE at ih2;rw[show(((i+1:Nat)):Int)=(i:Int)+1 by omega,ownS] at ih2
   generalize rdM (bare t) sc f.b=q at *;obtain⟨s,e⟩:=q;dsimp only at *;by_cases h:e≠0
   · rw[if_pos h]
     have nz:((e:Int) !=0)=true:=by simp;omega
     obtain⟨sc,sn,sh,w1,w2,ss,sm⟩:=s;unfold Sv.d Sv.cs at r3;rcases o with _|⟨cnt,null,has,mn,mx,sums,sum⟩<;>
       (simp only[boxO,boxT,boxS,List.append_nil,List.cons_append,List.nil_append]
        simp(maxSteps:=2000000) (disch:=first|exact y7|fail) only[go_sem,X_ai,d_a,ap,ae,zx,zy,hi,Option.map_some,bD,q1,q2,r3,nz]
        rfl)
   rw[if_neg h];have h:e=0:=Decidable.of_not_not h;subst h;rw[show((0:Nat):Int)=0 from rfl] at r3
   rw[← ih2];obtain⟨sc,sn,sh,w1,w2,ss,sm⟩:=s;unfold Sv.d Sv.cs at r3;unfold irE;cases acc with
   | nil=>
     rcases o with _|⟨cnt,null,has,mn,mx,sums,sum⟩<;>
       (simp only[boxO,boxT,boxS,List.append_nil,List.cons_append,List.nil_append,List.map_nil,ai]
        simp(maxSteps:=2000000) (disch:=first|exact y7|fail) only[go_sem,X_ai,d_a,ap,ae,zx,zy,hi,Option.map_some,bD,q1,q2,r3,Sv.d,Sv.cs,tk15,ln15])
   | cons y acc=>
     simp only[List.length_cons] at ha;rw[List.map_cons];generalize y.d=w;rcases o with _|⟨cnt,null,has,mn,mx,sums,sum⟩<;>
       (simp only[boxO,boxT,boxS,List.append_nil,List.cons_append,List.nil_append,am]
        simp(maxSteps:=2000000) (disch:=first|exact y7|fail) only[go_sem,X_ai,d_a,ap,ae,zx,zy,hi,Option.map_some,bD,q1,q2,r3,Sv.d,Sv.cs,tk15,ln15,List.cons_append])
theorem uq (t:Ty) (sc:Nat) (hsc:t.scale=(sc:Int)) (hs:sc≤18) (ho:ownM t=0) (gs:List Fld) (hn:gs.length≤4096) (hb:∀ g∈gs,g.b.length≤2000):∀ (r:List Fld) (i:Nat) (acc:List Sv) (o:Option Sv),gs.drop i=r→acc.length≤i→i≤gs.length→
  go X_ai [.c (.loop ti),.b 0,.c (r5.seq .ret)] ⟨irE gs i acc,boxT 2 t++boxO 15 o⟩=some (resI (idxM (bare t) sc r acc),[])
 | [],i,acc,o,hr,ha,hi=>by
  have:=bd hr;have:i=gs.length:=y8;subst this;have d_a:decide ((gs.length:Int)<gs.length)=false:=by simp<;>omega
  rw[go_loop];unfold irE;have e:resI (idxM (bare t) sc [] acc)= .d (.tup [.sl (acc.map Sv.d),.int .i64 0]):=rfl;rw[e];cases acc with
  | nil=>
   rcases o with _|⟨cnt,null,has,mn,mx,sums,sum⟩<;>
    (simp only[boxO,boxT,boxS,List.append_nil,List.cons_append,List.nil_append,List.map_nil,ai]
     simp(maxSteps:=2000000) (disch:=first|exact y7|fail) only[go_sem,X_ai,d_a,zj])
  | cons y acc=>
   rcases o with _|⟨cnt,null,has,mn,mx,sums,sum⟩<;>
    (simp only[boxO,boxT,boxS,List.append_nil,List.cons_append,List.nil_append,List.map_cons,am]
     simp(maxSteps:=2000000) (disch:=first|exact y7|fail) only[go_sem,X_ai,d_a,zj])
 | g::r,i,acc,o,hr,ha,hi=>by
  obtain⟨h1,h2,h3⟩:=cc hr;exact bfs t sc hsc hs ho gs hn g i acc o h2 y8 ha (hb g (List.mem_of_getElem? h2)) r fun acc o hc=>uq t sc hsc hs ho gs hn hb r (i+1) acc o h3 hc h1
theorem m7 (t:Ty) (sc:Nat) (hsc:t.scale=(sc:Int)) (hs:sc≤18) (ho:ownM t=0) (b:List UInt8) (hl:b.length≤2000):evL cfg n_ai 0 [.d t.d,.d (.sl ((b).map byteD))] []=some (resI (readI (bare t) sc b),[]):=by
 obtain⟨p1,p2⟩:=bo b;have q1:=al b y8;have q2:=yu (aa b).1 1 y8;rw[show((1:Nat):Int)=1 from rfl] at q2
 have hall:(allM (aa b).1 1).length≤4096:=aai (List.length_filter_le _ _) p2;have lp:=uq t sc hsc hs ho (allM (aa b).1 1) hall (fun g hg=>by have:=p1 g (abb.1 hg).1;omega) (allM (aa b).1 1) 0 [] none rfl (aaj _) (aaj _)
 rw[o_ai];unfold readI;unfold cd at q1;generalize aa b=pr at *;obtain⟨fs,e⟩:=pr;dsimp only at *;by_cases h:e≠0
 · rw[if_pos h]
   have nz:((e:Int) !=0)=true:=by simp;omega
   simp(maxSteps:=2000000) (disch:=first|exact y7|fail) only[go_sem,X_ai,c_ai,q1,nz]
   rfl
 rw[if_neg h];have h:e=0:=Decidable.of_not_not h;subst h;rw[show((0:Nat):Int)=0 from rfl] at q1
 have d_c:decide (((allM fs 1).length:Int)>4096)=false:=by simp<;>omega
 unfold irE at lp;simp only[boxO,boxT,List.append_nil] at lp;generalize allM fs 1=gs at *;rw[← lp];cases gs with
 | nil=>
   rw[List.map_nil,ai] at q2;have z:decide ((0:Int)>4096)=false:=rfl;simp(maxSteps:=2000000) (disch:=first|exact y7|fail) only[go_sem,X_ai,c_ai,q1,q2,z,List.map_nil,ai]
 | cons g gs=>
   rw[List.map_cons,am] at q2;rw[List.length_cons] at d_c;simp(maxSteps:=2000000) (disch:=first|exact y7|fail) only[go_sem,X_ai,c_ai,q1,q2,d_c,List.map_cons,List.map_nil,ai,zj,List.length_cons]
