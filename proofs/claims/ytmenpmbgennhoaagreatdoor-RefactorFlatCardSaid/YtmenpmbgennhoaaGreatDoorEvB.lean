/- The evaluator: appends, conversions, calls, code; one operation is the model's. -/
import Derived.Test.YtmenpmbgennhoaaGreatDoorEvA
import Derived.Laws.BytesString
import Derived.Laws.AppendOwn
import Derived.Lib.UnsafeStr
import Derived.TacticsIn
import Derived.RangeFuncIn
import Derived.RangeFuncLeaves
import Derived.Below
import GoSem.Extern.MapsClone
namespace Go.Ev
def srcCells (G:Nat) (g:Glob) (st:St) (size:Nat) (x:Value):Option (Nat × List Value):=
 match x with
 | .slice none n _=>if n=0 then some (0,[]) else none
 | .slice (some ⟨b,o,none⟩) n _=>match ldN G g st (n*size) b o with
  | some l=>some (n,l)
  | none=>none
 | .string s=>if size=1 then some (s.size,s.data.toList.map fun b=> .int .u8 b.toNat) else none
 | _=>none
def St.newGrown (st:St) (l:List Value) (e:TypeId):St:=
 ⟨st.heap.set st.next (.grown (T.lay .nil 0 l) l.length e st.next),st.fams.set st.next ⟨st.next,st.next⟩,st.next+1⟩
def St.moreGrown (st:St) (l:List Value) (e:TypeId) (r low:Nat):St:=
 ⟨st.heap.set st.next (.grown (T.lay .nil 0 l) l.length e r),st.fams.set r ⟨st.next,low⟩,st.next+1⟩
def oneL:List Value→Bool
 | []=>true
 | v::l=>oneB v && oneL l
def appSrc (G:Nat) (g:Glob) (st:St) (i:TypeInfo) (d:TypeDesc) (x:Value):Option (Nat × List Value):=
 match d with
 | .string=>srcCells G g st i.size x
 | .slice _=>srcCells G g st i.size x
 | .int _=>match x with
  | .int _ (.ofNat k)=>match i.zero with
   | some z=>if k < 9223372036854775808∧k*i.bytes≤281474976710656∧flat z then some (k,reps z.cells.toList k) else none
   | none=>none
  | _=>none
 | _=>none
def zeroFits (i:TypeInfo):Bool:=
 match i.zero with
 | some z=>Nat.beq z.cells.size i.size
 | none=>false
def evalAppend (P:Program) (G:Nat) (g:Glob) (st:St) (sT xT:TypeId) (s x:Value):Option (Value × St):=
 match P.underlying sT with
 | some (.slice elem)=>match P.info? elem with
  | some i=>match P.underlying xT with
   | some d=>if i.size=0∨openCap≤i.size∨i.bytes=0∨zeroFits i=false then none else match appSrc G g st i d x with
    | some (n,new)=>if ¬ oneL new then none else match s with
     | .slice none len cap=>
      if len=0∧cap=0 then
       if n=0 then some (.slice none 0 0,st)
       else if nextcap n 0*i.bytes≤281474976710656 then some (.slice (some ⟨st.next,0,none⟩) n (openOf n i.size),st.newGrown new elem)
       else none
      else none
     | .slice (some ⟨b,o,none⟩) len cap=>
      if cap < openCap then
       if len+n≤cap then match stN G st b (o+len*i.size) new with
        | some st'=>some (.slice (some ⟨b,o,none⟩) (len+n) cap,st')
        | none=>none
       else if nextcap (len+n) cap*i.bytes≤281474976710656 then match ldN G g st (len*i.size) b o with
        | some old=>if oneL old then some (.slice (some ⟨st.next,0,none⟩) (len+n) (openOf (len+n) i.size),st.newGrown (old++new) elem) else none
        | none=>none
       else none
      else if openE cap=i.size then
       if n=0 then some (s,st)
       else if len+n≤openK cap then match stN G st b (o+len*i.size) new with
        | some st'=>some (.slice (some ⟨b,o,none⟩) (len+n) cap,st')
        | none=>none
       else if (2*(len+n)+1000)*i.bytes≤281474976710656 then match st.heap.get b with
        | some (.grown _ k e r)=>match st.fams.get r with
         | some f=>if f.tip=b∧f.low≤b∧o+len*i.size=k∧e=elem then match ldN G g st (len*i.size) b o with
           | some old=>some (.slice (some ⟨st.next,0,none⟩) (len+n) (openOf (len+n) i.size),st.moreGrown (old++new) elem r f.low)
           | none=>none
          else none
         | none=>none
        | _=>none
       else none
      else none
     | _=>none
    | none=>none
   | none=>none
  | none=>none
 | _=>none
where nextcap (need cap:Nat):Nat:=Builtin.nextslicecap need cap
def bytesOf:List Value→Option (List UInt8)
 | []=>some []
 | .int .u8 n::l=>match bytesOf l with
  | some bs=>some (UInt8.ofNat n.toNat::bs)
  | none=>none
 | _=>none
def evalToString (P:Program) (G:Nat) (g:Glob) (st:St) (src dst:TypeId) (x:Value):Option Value:=
 match P.underlying src,P.underlying dst,x with
 | some (.slice e),some .string,.slice (some ⟨b,o,none⟩) len _=>match P.underlying e with
  | some (.int .u8)=>match ldN G g st len b o with
   | some l=>match bytesOf l with
    | some bs=>some (.string ⟨⟨bs⟩⟩)
    | none=>none
   | none=>none
  | _=>none
 | _,_,_=>none
def evalToBytes (P:Program) (st:St) (src dst:TypeId) (x:Value):Option (Value × St):=
 match P.underlying src,P.underlying dst,x with
 | some .string,some (.slice e),.string s=>match P.underlying e with
  | some (.int .u8)=>some (.slice (some ⟨st.next,0,none⟩) s.size (openOf s.size 1),st.newGrown (s.data.toList.map fun b=> .int .u8 b.toNat) e)
  | _=>none
 | _,_,_=>none
def opnd (_G:Nat) (tm:T Value):Operand→Value
 | .tmp t=>(tm.get t).getD undef
 | .const v=>v
 | .global b=> .pointer (some ⟨b,0,none⟩)
 | .func f=> .func (.func f) #[] #[]
def opndOk (G:Nat):Operand→Bool
 | .tmp _=>true
 | .const v=>flat v
 | .global b=>Nat.blt b G
 | .func _=>true
inductive Tgt where
 | fn (f:FuncId)
 | yield (l:Nat)
abbrev Caller:=Tgt→List Value→St→Option (Value × St)
structure Ext where
 fn:FuncId→Option (List Value→Option Value):=fun _=>none
 spec:FuncId→List Value→St→Option (Value × St):=fun _ _ _=>none
 clone:FuncId→Bool:=fun _=>false
 same:FuncId→Bool:=fun _=>false
def evalClone (args:List Value) (st:St):Option (Value × St):=
 match args with
 | [.iface t (.map (some r))]=>match st.heap.get r with
  | some (.map es clock)=>some (.iface t (.map (some st.next)),⟨st.heap.set st.next (.map es clock),st.fams,st.next+1⟩)
  | _=>none
 | _=>none
def evalCallee (P:Program) (ext:Ext) (call:Caller) (f:FuncId) (args:List Value) (st:St):Option (Value × St):=
 match P.funcs[f]? with
 | some fn=>match fn.body with
  | some _=>if fn.name== "runtime.NumGoroutine" then none else call (.fn f) args st
  | none=>match ext.fn f with
   | some h=>if flatL args then match h args with
     | some v=>some (v,st)
     | none=>none
    else none
   | none=>if ext.clone f then evalClone args st else if ext.same f then match args with
     | [x]=>some (x,st)
     | _=>none
    else none
 | none=>none
def evalCopy (P:Program) (G:Nat) (g:Glob) (st:St) (dT:TypeId) (d s:Value):Option (Value × St):=
 match P.underlying dT with
 | some (.slice elem)=>match sizeAt P elem with
  | some size=>match d with
   | .slice (some ⟨b,o,none⟩) dLen _=>match s with
    | .slice (some ⟨b',o',none⟩) n _=>match ldN G g st (Nat.min n dLen*size) b' o' with
     | some l=>if oneL l then match stN G st b o l with
       | some st'=>some (.int .i64 (Int.ofNat (Nat.min n dLen)),st')
       | none=>none
      else none
     | none=>none
    | .string s=>match stN G st b o ((s.extract 0 (Nat.min s.size dLen)).data.toList.map fun b=> .int .u8 b.toNat) with
     | some st'=>some (.int .i64 (Int.ofNat (Nat.min s.size dLen)),st')
     | none=>none
    | _=>none
   | _=>none
  | none=>none
 | _=>none
def St.freeze (st:St) (b:Nat) (e:TypeId):Option St:=
 match st.heap.get b with
 | some (.cells _ _ e0)=>bif Nat.beq e0 e then some ⟨st.heap.set b .spent,st.fams,st.next⟩ else none
 | some (.grown _ _ e0 r)=>bif Nat.beq e0 e then match st.fams.get r with
   | some f=>some ⟨st.heap,st.fams.set r ⟨f.tip,st.next⟩,st.next⟩
   | none=>none
  else none
 | _=>none
def evalUnsafeString (P:Program) (G:Nat) (g:Glob) (st:St) (pT:TypeId) (p n:Value):Option (Value × St):=
 match n with
 | .int _ (.ofNat k)=>match p with
  | .pointer pa=>bif Nat.beq k 0 then some (.string ByteArray.empty,st) else
   bif Nat.blt k 9223372036854775808 then match pa with
   | some ⟨b,o,none⟩=>match P.underlying pT with
    | some (.pointer e)=>bif Nat.beq (P.cellsOf e) 1 && Nat.ble G b then match ldN G g st k b o with
      | some l=>match bytesOf l with
       | some bs=>match st.freeze b e with
        | some st'=>some (.string ⟨⟨bs⟩⟩,st')
        | none=>none
       | none=>none
      | none=>none
     else none
    | _=>none
   | _=>none
   else none
  | _=>none
 | _=>none
def evalPtrConv (P:Program) (st:St) (src dst:TypeId) (x:Value):Option Value:=
 match P.underlying src,P.underlying dst,x with
 | some (.pointer t),some .unsafePointer,.pointer (some ⟨b,o,none⟩)=>match st.heap.get b with
  | some (.cells _ n _)=>match sizeAt P t with
   | some (_+1)=>bif Nat.blt o n then some x else none
   | _=>none
  | _=>none
 | some .unsafePointer,some (.pointer u),.pointer (some ⟨b,o,none⟩)=>match st.heap.get b with
  | some (.cells _ n e)=>match sizeAt P u with
   | some _=>bif liesAt P P.depth e (n / P.cellsOf e) o u 1 then some x else none
   | none=>none
  | _=>none
 | _,_,_=>none
def keysOf:List MapEntry→Nat→List MapEntry
 | [],_=>[]
 | e::l,i=>{ key:=e.key,val:= .int .i64 (Int.ofNat i),born:=0 }::keysOf l (i+1)
def flatKeys:List MapEntry→Bool
 | []=>true
 | e::l=>flat e.key && flatKeys l
def evalFind (P:Program) (kt:TypeId) (k:Value) (fresh:Bool) (es:List MapEntry):Option (Option Nat):=
 if flat k && flatKeys es then match peek P (Instr.checkKey fresh 10000 kt k) with
  | some ()=>match peek P (Instr.findKey kt k (keysOf es 0)) with
   | some (some (i,_))=>some (some i)
   | some none=>some none
   | none=>none
  | none=>none
 else none
def evalLookup (P:Program) (st:St) (t:TypeId) (x ix:Value) (ok:Bool):Option Value:=
 match P.underlying t with
 | some (.map kt et)=>match x with
  | .map (some r)=>match st.heap.get r with
   | some (.map es _)=>match evalFind P kt ix es.isEmpty es with
    | some (some i)=>match es[i]? with
     | some e=>some (packOk ok e.val true)
     | none=>none
    | some none=>match peek P (zeroValue et) with
     | some z=>if flat z then some (packOk ok z false) else none
     | none=>none
    | none=>none
   | _=>none
  | _=>none
 | _=>none
def evalMapSet (P:Program) (st:St) (t:TypeId) (x k v:Value):Option St:=
 match P.underlying t with
 | some (.map kt _)=>match x with
  | .map (some r)=>match st.heap.get r with
   | some (.map es clock)=>match evalFind P kt k false es with
    | some (some i)=>match es[i]? with
     | some e=>if Instr.sameBits 10000 e.key k then some ⟨st.heap.set r (.map (es.set i ⟨k,v,e.born⟩) clock),st.fams,st.next⟩ else none
     | none=>none
    | some none=>some ⟨st.heap.set r (.map (es++[⟨k,v,clock⟩]) (clock+1)),st.fams,st.next⟩
    | none=>none
   | _=>none
  | _=>none
 | _=>none
def evalRange (P:Program) (st:St) (t:TypeId) (x:Value):Option (Value × St):=
 match P.underlying t with
 | some .string=>match x with
  | .string s=>some (.pointer (some ⟨st.next,0,none⟩),⟨st.heap.set st.next (.iter s 0),st.fams,st.next+1⟩)
  | _=>none
 | some (.map _ _)=>match x with
  | .map (some m)=>match st.heap.get m with
   | some (.map _ clock)=>some (.pointer (some ⟨st.next,0,none⟩),⟨st.heap.set st.next (.walk m clock [] clock),st.fams,st.next+1⟩)
   | _=>none
  | _=>none
 | _=>none
def unseen (seen:List Nat) (es:List MapEntry):List MapEntry:=es.filter fun e=> !seen.contains e.born
def evalNext (st:St) (x:Value) (isString:Bool):Option (Value × St):=
 match x with
 | .pointer (some ⟨r,0,none⟩)=>match isString,st.heap.get r with
  | true,some (.iter s pos)=>
   if pos < s.size then some (.tuple #[.bool true,goInt pos,.int .i32 (Utf8.decode s pos).1],⟨st.heap.set r (.iter s (pos+(Utf8.decode s pos).2)),st.fams,st.next⟩)
   else some (.tuple #[.bool false],st)
  | false,some (.walk m since seen last)=>match st.heap.get m with
   | some (.map es clock)=>
    if (!seen.isEmpty && !es.isEmpty && es.all (·.born≥last)) || (unseen seen es).any (fun e=>decide (e.born≥since)) then none
    else match unseen seen es with
     | []=>some (.tuple #[.bool false],st)
     | [e]=>some (.tuple #[.bool true,e.key,e.val],⟨st.heap.set r (.walk m since (seen++[e.born]) clock),st.fams,st.next⟩)
     | _=>none
   | _=>none
  | _,_=>none
 | _=>none
def evalEntry (st:St) (x:Value):Option Value:=
 match x with
 | .pointer (some ⟨r,0,none⟩)=>match st.heap.get r with
  | some (.walk m _ seen last)=>match seen.getLast? with
   | some stamp=>match st.heap.get m with
    | some (.map es clock)=>if clock=last then match es.find? (fun e=>e.born==stamp) with
      | some e=>some (.tuple #[e.key,e.val])
      | none=>none
     else none
    | _=>none
   | none=>none
  | _=>none
 | _=>none
def evalMapLen (P:Program) (st:St) (t:TypeId) (x:Value):Option Value:=
 match P.underlying t with
 | some (.map _ _)=>match x with
  | .map (some r)=>match st.heap.get r with
   | some (.map es _)=>some (goInt es.length)
   | _=>none
  | _=>none
 | _=>none
def evalRead (P:Program) (G:Nat) (g:Glob) (st:St) (ρ:Operand→Value) (o:Oper):Option Value:=
 match o.op with
 | .load t x=>evalLoad P G g st t (ρ x)
 | .convert s d x=>match evalToString P G g st s d (ρ x) with
  | some v=>some v
  | none=>evalPtrConv P st s d (ρ x)
 | .lookup t x ix ok=>evalLookup P st t (ρ x) (ρ ix) ok
 | .entry x=>evalEntry st (ρ x)
 | .call ⟨.builtin .len,⟨[x]⟩,⟨[t]⟩⟩=>evalMapLen P st t (ρ x)
 | _=>none
def evalLoud (P:Program) (G:Nat) (g:Glob) (ext:Ext) (call:Caller) (st:St) (ρ:Operand→Value) (o:Oper):Option (Value × St):=
 match o.op with
 | .store t a v=>match evalStore P G st t (ρ a) (ρ v) with
  | some st'=>some (undef,st')
  | none=>none
 | .call ⟨.value f,args,_⟩=>match ρ f with
  | .func (.func fid) first cap=>evalCallee P ext call fid (first.toList++args.toList.map ρ++cap.toList) st
  | .func (.yield l) ⟨[]⟩ ⟨[]⟩=>call (.yield l) (args.toList.map ρ) st
  | _=>none
 | .call ⟨.builtin .copy,⟨[d,s]⟩,⟨[dT,_]⟩⟩=>evalCopy P G g st dT (ρ d) (ρ s)
 | .call ⟨.builtin .unsafeString,⟨[p,n]⟩,⟨[pT,_]⟩⟩=>evalUnsafeString P G g st pT (ρ p) (ρ n)
 | .call ⟨.builtin .append,⟨[s,x]⟩,⟨[sT,xT]⟩⟩=>evalAppend P G g st sT xT (ρ s) (ρ x)
 | .convert s d x=>evalToBytes P st s d (ρ x)
 | .mapUpdate t x k v=>match evalMapSet P st t (ρ x) (ρ k) (ρ v) with
  | some st'=>some (undef,st')
  | none=>none
 | .insert t x k v=>match evalMapSet P st t (ρ x) (ρ k) (ρ v) with
  | some st'=>some (undef,st')
  | none=>none
 | .range t x=>evalRange P st t (ρ x)
 | .next it isString=>evalNext st (ρ it) isString
 | .makeMap _ none=>some (.map (some st.next),⟨st.heap.set st.next (.map [] 0),st.fams,st.next+1⟩)
 | op=>match evalAlloc P ρ op with
  | some (l,e,k)=>if k.ok then some (k.value ⟨st.next,0,none⟩,st.newCells l e) else none
  | none=>none
def evalQuiet (P:Program) (G:Nat) (ρ:Operand→Value) (o:Oper):Option Value:=
 match evalFast P ρ o.op with
 | some v=>some v
 | none=>match evalPure P G ρ o with
  | some v=>some v
  | none=>evalFlat P ρ o
inductive OpR where
 | quiet (v:Value)
 | read (v:Value)
 | loud (v:Value) (st:St)
def evalOp (P:Program) (G:Nat) (g:Glob) (ext:Ext) (call:Caller) (st:St) (ρ:Operand→Value) (o:Oper):Option OpR:=
 match evalQuiet P G ρ o with
 | some v=>some (.quiet v)
 | none=>match evalRead P G g st ρ o with
  | some v=>some (.read v)
  | none=>match evalLoud P G g ext call st ρ o with
   | some (v,st')=>some (.loud v st')
   | none=>none
def putT (nt:Nat) (tm:T Value) (dst:Option Tmp) (v:Value):Option (T Value):=
 match dst with
 | some d=>bif Nat.blt d nt then some (tm.set d v) else none
 | none=>some tm
def wantedA (ops:Array Oper) (tm:T Value) (o:Oper):Bool:=
 match o.guard with
 | none=>true
 | some (j,want)=>match (ops[j]?).bind (·.dst) with
  | some d=>match tm.get d with
   | some (.bool b)=>b==want
   | _=>false
  | none=>false
inductive Ex where
 | normal
 | exit (id:Nat)
 | ret
inductive Dfr where
 | fn (f:FuncId) (args:List Value)
 | mark (d:Nat)
def evalDefer (P:Program) (ρ:Operand→Value) (o:Oper):Option Dfr:=
 match o.op with
 | .defer ⟨.value f,args,_⟩=>match ρ f with
  | .func (.func fid) first cap=>match P.funcs[fid]? with
   | some fn=>bif fn.body.isSome && !(fn.name== "runtime.NumGoroutine") then some (.fn fid (first.toList++args.toList.map ρ++cap.toList)) else none
   | none=>none
  | _=>none
 | _=>none
def evalOps (P:Program) (G:Nat) (g:Glob) (ext:Ext) (call:Caller) (ops:Array Oper) (nt:Nat) (rd:Option Nat):List Oper→T Value→List Dfr→St→Option (T Value × List Dfr × St)
 | [],tm,ds,st=>some (tm,ds,st)
 | o::l,tm,ds,st=>
  bif wantedA ops tm o then
   match evalOp P G g ext call st (opnd G tm) o with
   | some (.quiet v)=>match putT nt tm o.dst v with
    | some tm'=>evalOps P G g ext call ops nt rd l tm' ds st
    | none=>none
   | some (.read v)=>match putT nt tm o.dst v with
    | some tm'=>evalOps P G g ext call ops nt rd l tm' ds st
    | none=>none
   | some (.loud v st')=>match putT nt tm o.dst v with
    | some tm'=>evalOps P G g ext call ops nt rd l tm' ds st'
    | none=>none
   | none=>match rd,evalDefer P (opnd G tm) o with
    | none,some d=>match putT nt tm o.dst undef with
     | some tm'=>evalOps P G g ext call ops nt rd l tm' (d::ds) st
     | none=>none
    | _,_=>none
  else match putT nt tm o.dst undef with
   | some tm'=>evalOps P G g ext call ops nt rd l tm' ds st
   | none=>none
structure Rc where
 tm:T Value
 v:Value
 kind:Nat
def drawOps (P:Program) (G:Nat) (g:Glob) (ext:Ext) (call:Caller) (ops:Array Oper) (nt:Nat):List Oper→T Value→St→Option (List Rc × T Value × List St)
 | [],tm,_=>some ([],tm,[])
 | o::l,tm,st=>
  bif wantedA ops tm o then
   match evalOp P G g ext call st (opnd G tm) o with
   | some (.quiet v)=>match putT nt tm o.dst v with
    | some tm'=>match drawOps P G g ext call ops nt l tm' st with
     | some (rs,e,sts)=>some (⟨tm,v,1⟩::rs,e,sts)
     | none=>none
    | none=>none
   | some (.read v)=>match putT nt tm o.dst v with
    | some tm'=>match drawOps P G g ext call ops nt l tm' st with
     | some (rs,e,sts)=>some (⟨tm,v,2⟩::rs,e,sts)
     | none=>none
    | none=>none
   | some (.loud v st')=>match putT nt tm o.dst v with
    | some tm'=>match drawOps P G g ext call ops nt l tm' st' with
     | some (rs,e,sts)=>some (⟨tm,v,3⟩::rs,e,st'::sts)
     | none=>none
    | none=>none
   | none=>none
  else match putT nt tm o.dst undef with
   | some tm'=>match drawOps P G g ext call ops nt l tm' st with
    | some (rs,e,sts)=>some (⟨tm,undef,0⟩::rs,e,sts)
    | none=>none
   | none=>none
def maskOf (acc:List Nat):List Edge→Nat
 | []=>0
 | e::es=>if Region.binds .any e then Nat.lor (Nat.lor (Nat.pow 2 e.on) (acc.getD e.on 0)) (maskOf acc es) else maskOf acc es
def masks:List Oper→List Nat→List Nat
 | [],acc=>acc
 | o::l,acc=>masks l (acc++[maskOf acc o.after.toList])
def namesOf (ops:List Oper) (o:Oper):List Tmp:=
 o.dst.toList++(o.op.operands.toList.filterMap fun | .tmp t=>some t | _=>none)++
  (match o.guard with | some (j,_)=>((ops[j]?).bind (·.dst)).toList | none=>[])
def edgesOk (i:Nat) (o:Oper):Bool:=o.after.toList.all fun e=> !Region.binds .any e || Nat.blt e.on i
def pairOk (ops:List Oper) (B:List Nat) (i:Nat) (oi:Oper) (j:Nat) (oj:Oper):Bool:=
 match oj.dst with
 | some d=>Nat.beq i j || !(namesOf ops oi).contains d || ((B.getD i 0).testBit j || (B.getD j 0).testBit i) && oi.dst !=some d
 | none=>true
def allIdx (f:Nat→Oper→Bool):Nat→List Oper→Bool
 | _,[]=>true
 | i,o::l=>f i o && allIdx f (i+1) l
def orderOk (ops:List Oper) (B:List Nat):Bool:=
 allIdx (fun i oi=>edgesOk i oi && allIdx (fun j oj=>pairOk ops B i oi j oj) 0 ops) 0 ops
def operandsOk (G:Nat) (ops:List Oper):Bool:=ops.all fun o=>o.op.operands.toList.all (opndOk G)
def loudsOf:Nat→List Rc→List Nat
 | _,[]=>[]
 | i,r::l=>if r.kind=3 then i::loudsOf (i+1) l else loudsOf (i+1) l
inductive Fl where
 | cells (l:List Value) (e:TypeId) (h:Handle)
 | map
def Fl.obj:Fl→AObj
 | .cells l e _=> .cells (T.lay .nil 0 l) l.length e
 | .map=> .map [] 0
def Fl.val (id:Nat):Fl→Value
 | .cells _ _ h=>h.value ⟨id,0,none⟩
 | .map=> .map (some id)
def floatOf (P:Program) (ρ:Operand→Value) (op:Op):Option Fl:=
 match op with
 | .makeMap _ none=>some .map
 | op=>match evalAlloc P ρ op with
  | some (l,e,k)=>if k.ok then some (.cells l e k) else none
  | none=>none
def flags (P:Program) (G:Nat):List Oper→List Rc→List Bool
 | o::ops,r::rs=>(if r.kind=3 then (floatOf P (opnd G r.tm) o.op).isSome else false)::flags P G ops rs
 | _,_=>[]
def chainOk (B:List Nat) (fl:List Bool):List Nat→List Nat→Bool
 | _,[]=>true
 | past,l::ls=>(fl.getD l false || past.all (fun p=>(B.getD l 0).testBit p)) && chainOk B fl (past++[l]) ls
def useOk (m:Nat):List Nat→List Nat→Bool
 | _,[]=>true
 | past,l::ls=>(!m.testBit l || past.all (fun p=>m.testBit p)) && useOk m (past++[l]) ls
def valEq1:Value→Value→Bool
 | .bool a,.bool b=>a==b
 | .int j (.ofNat a),.int k (.ofNat b)=>kindEq j k && Nat.beq a b
 | .int j (.negSucc a),.int k (.negSucc b)=>kindEq j k && Nat.beq a b
 | .float .f64 a,.float .f64 b=>Nat.beq a b
 | .string a,.string b=>a.data.toList==b.data.toList
 | .pointer none,.pointer none=>true
 | .pointer (some ⟨b,o,none⟩),.pointer (some ⟨b',o',none⟩)=>Nat.beq b b' && Nat.beq o o'
 | .slice none l c,.slice none l' c'=>Nat.beq l l' && Nat.beq c c'
 | .slice (some ⟨b,o,none⟩) l c,.slice (some ⟨b',o',none⟩) l' c'=>(Nat.beq b b' && Nat.beq o o') && (Nat.beq l l' && Nat.beq c c')
 | .map none,.map none=>true
 | .map (some a),.map (some b)=>Nat.beq a b
 | .nilFunc,.nilFunc=>true
 | .nilIface,.nilIface=>true
 | _,_=>false
def valEqL:List Value→List Value→Bool
 | [],[]=>true
 | a::l,b::m=>valEq1 a b && valEqL l m
 | _,_=>false
def valEq (a b:Value):Bool:=
 match a,b with
 | .agg ⟨x⟩,.agg ⟨y⟩=>valEqL x y
 | a,b=>valEq1 a b
def readAt (P:Program) (G:Nat) (g:Glob) (B louds:List Nat) (q:Nat) (o:Oper) (r:Rc) (k:Nat) (st:St):Bool:=
 (louds.drop k).any (fun l=>(B.getD q 0).testBit l) || (louds.take k).any (fun l=>(B.getD l 0).testBit q) ||
  (match evalRead P G g st (opnd G r.tm) o with
   | some v=>valEq v r.v
   | none=>false)
def readAll (P:Program) (G:Nat) (g:Glob) (B louds:List Nat) (q:Nat) (o:Oper) (r:Rc):Nat→List St→Bool
 | _,[]=>true
 | k,st::l=>readAt P G g B louds q o r k st && readAll P G g B louds q o r (k+1) l
def readsOk (P:Program) (G:Nat) (g:Glob) (B louds:List Nat) (sts:List St):Nat→List Oper→List Rc→Bool
 | q,o::ops,r::rs=>(if r.kind=2 then readAll P G g B louds q o r 0 sts else true) && readsOk P G g B louds sts (q+1) ops rs
 | _,_,_=>true
def lastSt:St→List St→St
 | st,[]=>st
 | _,s::l=>lastSt s l
def evalDrawT (P:Program) (G:Nat) (g:Glob) (ext:Ext) (call:Caller) (ops:Array Oper) (nt:Nat) (tm:T Value) (st:St):Option (T Value × St):=
 match drawOps P G g ext call ops nt ops.toList tm st with
 | some (rs,e,sts)=>
  bif orderOk ops.toList (masks ops.toList []) && (match sts with
   | []=>true
   | _=>chainOk (masks ops.toList []) (flags P G ops.toList rs) [] (loudsOf 0 rs) && (masks ops.toList []).all (fun m=>useOk m [] (loudsOf 0 rs)) && readsOk P G g (masks ops.toList []) (loudsOf 0 rs) (st::sts) 0 ops.toList rs)
  then some (e,lastSt st sts) else none
 | none=>none
def posIn (i:Nat):List Nat→Nat
 | []=>0
 | x::l=>bif Nat.beq x i then 0 else Nat.succ (posIn i l)
def Oper.move (ord:List Nat) (o:Oper):Oper:=
 { o with after:=o.after.map fun e=>{ e with on:=posIn e.on ord },guard:=o.guard.map fun x=>(posIn x.1 ord,x.2) }
def permute (ops:Array Oper) (ord:List Nat):Array Oper:=⟨ord.map fun i=>Oper.move ord ((ops[i]?).getD default)⟩
def permOk (ord:List Nat):Nat→Bool
 | 0=>true
 | n+1=>(match ord[posIn n ord]? with | some x=>Nat.beq x n | none=>false) && permOk ord n
def surOk (ord:List Nat) (n:Nat):Nat→List Nat→Bool
 | _,[]=>true
 | k,x::l=>Nat.blt x n && Nat.beq (posIn x ord) k && surOk ord n (k+1) l
def innerOk (ops:List Oper):Bool:=
 ops.all fun o=>o.after.toList.all (fun e=>Nat.blt e.on ops.length) && (match o.guard with | some (j,_)=>Nat.blt j ops.length | none=>true)
def isLoudOp (o:Oper):Bool:=
 match o.op with
 | .call ⟨.builtin .len,_,_⟩ | .call ⟨.builtin .cap,_,_⟩ | .call ⟨.builtin .min,_,_⟩ | .call ⟨.builtin .max,_,_⟩=>false
 | .store .. | .call _ | .mapUpdate .. | .insert .. | .range .. | .next .. => true
 | _=>false
def isFloatOp (o:Oper):Bool:=
 match o.op with
 | .alloc _ | .box .. | .buildSlice .. | .makeSlice .. | .makeMap _ none=>true
 | _=>false
def needsLate:List Nat→List Oper→Nat→Nat→Bool
 | m::ms,o::ops,i,fl=>
  (isLoudOp o && !Nat.beq (Nat.land m fl) fl) || needsLate ms ops (i+1) (bif isFloatOp o then Nat.lor fl (Nat.pow 2 i) else fl)
 | _,_,_,_=>false
def todoOf (m done:Nat):Nat→List Nat→List Nat
 | 0,acc=>acc
 | n+1,acc=>todoOf m done n (bif m.testBit n && !done.testBit n then n::acc else acc)
def lateOrder (n:Nat):List Nat→List Oper→Nat→Nat→List Nat→List Nat
 | m::ms,o::ops,i,done,acc=>
  bif isLoudOp o && !done.testBit i then
   lateOrder n ms ops (i+1) (Nat.lor (Nat.lor done m) (Nat.pow 2 i)) (acc++todoOf m done n []++[i])
  else lateOrder n ms ops (i+1) done acc
 | _,_,_,done,acc=>acc++todoOf (Nat.pow 2 n - 1) done n []
def evalDraw (P:Program) (G:Nat) (g:Glob) (ext:Ext) (call:Caller) (ops:Array Oper) (nt:Nat) (tm:T Value) (st:St):Option (T Value × St):=
 bif needsLate (masks ops.toList []) ops.toList 0 0 then
  bif permOk (lateOrder ops.size (masks ops.toList []) ops.toList 0 0 []) ops.size && Nat.beq (lateOrder ops.size (masks ops.toList []) ops.toList 0 0 []).length ops.size && surOk (lateOrder ops.size (masks ops.toList []) ops.toList 0 0 []) ops.size 0 (lateOrder ops.size (masks ops.toList []) ops.toList 0 0 []) && innerOk ops.toList &&
    operandsOk G (permute ops (lateOrder ops.size (masks ops.toList []) ops.toList 0 0 [])).toList then
   evalDrawT P G g ext call (permute ops (lateOrder ops.size (masks ops.toList []) ops.toList 0 0 [])) nt tm st
  else none
 else evalDrawT P G g ext call ops nt tm st
def St.enter (st:St) (rd:Option Nat) (tm:T Value) (nt:Nat) (ps:List Tmp) (assign body:Code):Option (Nat × List Dfr × St):=
 match rd with
 | none=>some (st.next+1,[.mark st.next],⟨(st.heap.set st.next .marks).set (st.next+1) (.loop tm nt ps assign body .ready none),st.fams,st.next+2⟩)
 | some r=>match st.heap.get r with
  | some (.loop ..)=>some (st.next,[],⟨st.heap.set st.next (.loop tm nt ps assign body .ready none),st.fams,st.next+1⟩)
  | _=>none
def St.leave (st:St) (l:Nat):Option (Option Code × St):=
 match st.heap.get l with
 | some (.loop _ _ _ _ _ .ready j)=>some (j,⟨st.heap.set l .spent,st.fams,st.next⟩)
 | some (.loop _ _ _ _ _ .done j)=>some (j,⟨st.heap.set l .spent,st.fams,st.next⟩)
 | _=>none
def Ex.jump:Ex→Option Code
 | .normal=>none
 | .ret=>some .ret
 | .exit id=>some (.exit id)
def evalCode (P:Program) (G:Nat) (g:Glob) (ext:Ext) (call:Caller) (nt:Nat) (rd:Option Nat):Nat→Code→T Value→List Dfr→St→Option (Ex × T Value × List Dfr × St)
 | 0,_,_,_,_=>none
 | n+1,c,tm,ds,st=>
  match c with
  | .skip | .label _=>some (.normal,tm,ds,st)
  | .region _ ops draw=>bif operandsOk G ops.toList then
    bif draw then match evalDraw P G g ext call ops nt tm st with
     | some (tm',st')=>some (.normal,tm',ds,st')
     | none=>none
    else match evalOps P G g ext call ops nt rd ops.toList tm ds st with
     | some (tm',ds',st')=>some (.normal,tm',ds',st')
     | none=>none
   else none
  | .seq x y=>match evalCode P G g ext call nt rd n x tm ds st with
   | some (.normal,tm',ds',st')=>evalCode P G g ext call nt rd n y tm' ds' st'
   | r=>r
  | .cond c x y=>match opnd G tm c with
   | .bool b=>evalCode P G g ext call nt rd n (bif b then x else y) tm ds st
   | _=>none
  | .block id c=>match evalCode P G g ext call nt rd n c tm ds st with
   | some (.exit id',tm',ds',st')=>if id'=id then some (.normal,tm',ds',st') else some (.exit id',tm',ds',st')
   | r=>r
  | .loop c=>match evalCode P G g ext call nt rd n c tm ds st with
   | some (.normal,tm',ds',st')=>evalCode P G g ext call nt rd n (.loop c) tm' ds' st'
   | r=>r
  | .rangeFunc f ps assign body=>match opnd G tm f with
   | .func (.func fid) first cap=>match opndOk G f,st.enter rd tm nt ps.toList assign body with
    | true,some (l,mark,st1)=>match P.funcs[fid]? with
     | some fn=>bif fn.body.isSome && !(fn.name== "runtime.NumGoroutine") then match call (.fn fid) (first.toList++[.func (.yield l) #[] #[]]++cap.toList) st1 with
       | some (_,st2)=>match st2.leave l with
        | some (none,st3)=>some (.normal,tm,mark++ds,st3)
        | some (some .ret,st3)=>some (.ret,tm,mark++ds,st3)
        | some (some (.exit id),st3)=>some (.exit id,tm,mark++ds,st3)
        | _=>none
       | none=>none
      else none
     | none=>none
    | _,_=>none
   | _=>none
  | .exit id=>some (.exit id,tm,ds,st)
  | .ret=>some (.ret,tm,ds,st)
  | _=>none
def yieldT (nt:Nat):List Tmp→List Value→T Value→Option (T Value)
 | [],[],tm=>some tm
 | p::ps,v::vs,tm=>bif Nat.blt p nt then yieldT nt ps vs (tm.set p v) else none
 | _,_,_=>none
def evalRound (P:Program) (G:Nat) (g:Glob) (ext:Ext) (call:Caller) (fuel l:Nat) (args:List Value) (st:St):Option (Value × St):=
 match st.heap.get l with
 | some (.loop tm nt ps assign body .ready _)=>match yieldT nt ps args tm with
  | some tm1=>match evalCode P G g ext call nt (some l) fuel assign tm1 [] st with
   | some (.normal,tm2,[],st2)=>match st2.heap.get l with
    | some (.loop tm' nt' ps' as' bo' .ready j)=>match evalCode P G g ext call nt (some l) fuel body tm2 [] ⟨st2.heap.set l (.loop tm' nt' ps' as' bo' .busy j),st2.fams,st2.next⟩ with
     | some (ex,_,[],st3)=>match st3.heap.get l with
      | some (.loop tm3 nt3 ps3 as3 bo3 _ _)=>some (.bool ex.jump.isNone,⟨st3.heap.set l (.loop tm3 nt3 ps3 as3 bo3 (if ex.jump.isNone then .ready else .done) ex.jump),st3.fams,st3.next⟩)
      | _=>none
     | _=>none
    | _=>none
   | _=>none
  | none=>none
 | _=>none
def isRecover (o:Oper):Bool:=
 match o.guard,o.op with
 | none,.call ⟨.builtin .recover,⟨[]⟩,_⟩=>true
 | _,_=>false
def recoverRegion:Code→Option (Oper × List Oper)
 | .region _ ⟨o::l⟩ false=>bif isRecover o then some (o,l) else none
 | _=>none
def evalQuiets (P:Program) (G nt:Nat):List Oper→T Value→Option (T Value)
 | [],tm=>some tm
 | o::l,tm=>bif o.guard.isNone then match evalQuiet P G (opnd G tm) o with
   | some v=>match putT nt tm o.dst v with
    | some tm'=>evalQuiets P G nt l tm'
    | none=>none
   | none=>none
  else none
def evalCodeD (P:Program) (G:Nat) (g:Glob) (ext:Ext) (call:Caller) (nt:Nat):Nat→Code→T Value→St→Option (Ex × T Value × St)
 | 0,_,_,_=>none
 | n+1,c,tm,st=>
  match c with
  | .seq x y=>match evalCodeD P G g ext call nt n x tm st with
   | some (.normal,tm',st')=>evalCodeD P G g ext call nt n y tm' st'
   | r=>r
  | .cond c x y=>match opnd G tm c with
   | .bool b=>evalCodeD P G g ext call nt n (bif b then x else y) tm st
   | _=>none
  | c=>match recoverRegion c with
   | some (o,l)=>bif operandsOk G l then match putT nt tm o.dst .nilIface with
     | some tm1=>match evalQuiets P G nt l tm1 with
      | some tm'=>some (.normal,tm',st)
      | none=>none
     | none=>none
    else none
   | none=>match evalCode P G g ext call nt none n c tm [] st with
    | some (ex,tm',[],st')=>some (ex,tm',st')
    | _=>none
def evalLeave (P:Program) (G:Nat) (g:Glob) (ext:Ext) (call:Caller) (fuel:Nat):List Dfr→St→Option St
 | [],st=>some st
 | .mark d::ds,st=>match st.heap.get d with
  | some .marks=>evalLeave P G g ext call fuel ds ⟨st.heap.set d .spent,st.fams,st.next⟩
  | _=>none
 | .fn f args::ds,st=>match P.funcs[f]? with
  | some fn=>match fn.body with
   | some c=>bif Nat.ble args.length fn.ntmps && fn.results.isEmpty then match evalCodeD P G g ext call fn.ntmps fuel c (T.lay .nil 0 args) st with
     | some (.exit _,_,_)=>none
     | some (_,_,st')=>evalLeave P G g ext call fuel ds st'
     | none=>none
    else none
   | none=>none
  | none=>none
def resultOf (P:Program) (G:Nat) (g:Glob) (st:St) (tm:T Value):List ResultVar→Option (List Value)
 | []=>some []
 | .tmp t::l=>match resultOf P G g st tm l with
  | some vs=>some ((tm.get t).getD undef::vs)
  | none=>none
 | .cell a t::l=>match evalLoad P G g st t ((tm.get a).getD undef) with
  | some v=>match resultOf P G g st tm l with
   | some vs=>some (v::vs)
   | none=>none
  | none=>none
def results (P:Program) (G:Nat) (g:Glob) (st:St) (tm:T Value) (rs:Array ResultVar):Option Value:=
 match resultOf P G g st tm rs.toList with
 | some [v]=>some v
 | some vs=>some (.tuple ⟨vs⟩)
 | none=>none
def evalCall (P:Program) (G:Nat) (g:Glob) (ext:Ext) (fuel:Nat):Nat→Caller
 | 0,_,_,_=>none
 | n+1,.yield l,args,st=>evalRound P G g ext (evalCall P G g ext fuel n) fuel l args st
 | n+1,.fn f,args,st=>match ext.spec f args st with
  | some r=>some r
  | none=>match P.funcs[f]? with
  | some fn=>match fn.body with
   | some c=>bif Nat.ble args.length fn.ntmps then match evalCode P G g ext (evalCall P G g ext fuel n) fn.ntmps none fuel c (T.lay .nil 0 args) [] st with
    | some (.exit _,_,_,_)=>none
    | some (_,tm,ds,st1)=>match evalLeave P G g ext (evalCall P G g ext fuel n) fuel ds st1 with
     | some st'=>match results P G g st' tm fn.results with
      | some v=>some (v,st')
      | none=>none
     | none=>none
    | none=>none
    else none
   | none=>none
  | none=>none
end Go.Ev
namespace Go.Ev
variable {P:Program} {G N0 N:Nat} {g:Glob} {φ:Phi} {st st':St} {w:World}
theorem kindEq_spec {k k':IntKind} (h:kindEq k k'=true):k=k':=by cases k <;> cases k' <;> simp [kindEq] at h <;> rfl
theorem wrap_small {k:IntKind} {z:Nat} (h:z < lim k):k.wrap (z:Int)=(z:Int):=by
 cases k <;> simp only [lim] at h <;> simp [IntKind.wrap,IntKind.bits,IntKind.signed] <;> omega
theorem wrap_uns {k:IntKind} (z:Nat) (hu:uns k=true):k.wrap (z:Int)=((z % lim k:Nat):Int):=by
 cases k <;> simp [uns] at hu <;> simp [IntKind.wrap,IntKind.bits,IntKind.signed,lim]
theorem wrapNat_spec {k:IntKind} {z:Nat} {v:Value} (h:wrapNat k z=some v):v= .int k (k.wrap (z:Int)):=by
 unfold wrapNat at h
 cases h1:Nat.blt z (lim k) with
 | true=>rw [h1] at h; cases h; rw [wrap_small (blt_true h1)]; rfl
 | false=>
  rw [h1] at h
  cases h2:uns k with
  | true=>rw [h2] at h; cases h; rw [wrap_uns z h2]; rfl
  | false=>rw [h2] at h; cases h
theorem wrap_mod {k:IntKind} {x y:Nat} (hu:uns k=true):k.wrap (((x+lim k - y:Nat):Int))=k.wrap ((x:Int) - (y:Int))∨x+lim k < y:=by
 by_cases h:x+lim k < y
 ·exact .inr h
 ·refine .inl ?_
  cases k <;> simp [uns] at hu <;> simp only [lim] at h ⊢ <;> simp [IntKind.wrap,IntKind.bits,IntKind.signed] <;> omega
theorem subNat_spec {k:IntKind} {x y:Nat} {v:Value} (h:subNat k x y=some v) (hx:x < lim k) (hy:y < lim k):v= .int k (k.wrap ((x:Int) - (y:Int))):=by
 unfold subNat at h
 cases h1:Nat.ble y x with
 | true=>
  rw [h1] at h; cases h
  have hle:=Nat.le_of_ble_eq_true h1
  have e:(x:Int) - (y:Int)=((x - y:Nat):Int):=by omega
  rw [e,wrap_small (by omega)]; rfl
 | false=>
  rw [h1] at h
  have hlt:x < y:=by
   rcases Nat.lt_or_ge x y with h | h
   ·exact h
   ·rw [Nat.ble_eq_true_of_le h] at h1; cases h1
  cases h2:uns k with
  | true=>
   rw [h2] at h
   rw [wrapNat_spec h]
   rcases wrap_mod (x:=x) (y:=y) h2 with h3 | h3
   ·congr 1
   ·omega
  | false=>
   rw [h2] at h
   simp only [cond_false] at h
   cases h3:Nat.ble (Nat.sub y x) (lim k) with
   | false=>rw [h3] at h; cases h
   | true=>
    rw [h3] at h; cases h
    congr 1
    have e:Int.negSucc ((y.sub x).sub 1)=(x:Int) - (y:Int):=by
     show Int.negSucc (y - x - 1)=_
     omega
    rw [e]
    cases k <;> simp [uns] at h2 <;> simp only [lim] at hx hy <;> simp [IntKind.wrap,IntKind.bits,IntKind.signed] <;> omega
theorem land_lim {k:IntKind} {x y:Nat} (hx:x < lim k):x &&& y < lim k:=Nat.lt_of_le_of_lt Nat.and_le_left hx
theorem lor_lim {k:IntKind} {x y:Nat} (hx:x < lim k) (hy:y < lim k):x ||| y < lim k:=by
 have e:∃ n,lim k=2 ^ n:=by cases k <;> first | exact ⟨7,rfl⟩ | exact ⟨15,rfl⟩ | exact ⟨31,rfl⟩ | exact ⟨63,rfl⟩ | exact ⟨8,rfl⟩ | exact ⟨16,rfl⟩ | exact ⟨32,rfl⟩ | exact ⟨64,rfl⟩
 obtain ⟨n,e⟩:=e
 rw [e] at hx hy ⊢
 exact Nat.or_lt_two_pow hx hy
theorem xor_lim {k:IntKind} {x y:Nat} (hx:x < lim k) (hy:y < lim k):x ^^^ y < lim k:=by
 have e:∃ n,lim k=2 ^ n:=by cases k <;> first | exact ⟨7,rfl⟩ | exact ⟨15,rfl⟩ | exact ⟨31,rfl⟩ | exact ⟨63,rfl⟩ | exact ⟨8,rfl⟩ | exact ⟨16,rfl⟩ | exact ⟨32,rfl⟩ | exact ⟨64,rfl⟩
 obtain ⟨n,e⟩:=e
 rw [e] at hx hy ⊢
 exact Nat.xor_lt_two_pow hx hy
theorem lim_le {k:IntKind}:lim k≤2 ^ k.bits:=by cases k <;> decide
theorem run_bits {op:BinOp} {k:IntKind} {x y z:Nat} (hx:x < lim k) (hy:y < lim k) (hz:z < lim k)
  (h:(op= .and∧z=x &&& y)∨(op= .or∧z=x ||| y)∨(op= .xor∧z=x ^^^ y)) (w:World) :
  (Op.intBits op k (x:Int) (y:Int)).run P w= .ok (.int k (z:Int)) w:=by
 have hx':x < 2 ^ k.bits:=Nat.lt_of_lt_of_le hx lim_le
 have hy':y < 2 ^ k.bits:=Nat.lt_of_lt_of_le hy lim_le
 have e1:BitVec.ofInt k.bits (x:Int)=BitVec.ofNat k.bits x:=BitVec.ofInt_natCast _ _
 have e2:BitVec.ofInt k.bits (y:Int)=BitVec.ofNat k.bits y:=BitVec.ofInt_natCast _ _
 rcases h with ⟨rfl,rfl⟩ | ⟨rfl,rfl⟩ | ⟨rfl,rfl⟩
 ·simp only [Op.intBits,e1,e2,Sem.run_pure,BitVec.toNat_and,BitVec.toNat_ofNat,Nat.mod_eq_of_lt hx',Nat.mod_eq_of_lt hy',wrap_small hz]
 ·simp only [Op.intBits,e1,e2,Sem.run_pure,BitVec.toNat_or,BitVec.toNat_ofNat,Nat.mod_eq_of_lt hx',Nat.mod_eq_of_lt hy',wrap_small hz]
 ·simp only [Op.intBits,e1,e2,Sem.run_pure,BitVec.toNat_xor,BitVec.toNat_ofNat,Nat.mod_eq_of_lt hx',Nat.mod_eq_of_lt hy',wrap_small hz]
theorem beq_cast (x y:Nat):((x:Int)==(y:Int))=Nat.beq x y:=by
 by_cases h:x=y
 ·subst h; simp
 ·have h1:((x:Int)==(y:Int))=false:=by simp; omega
  have h2:Nat.beq x y=false:=by
   cases hb:Nat.beq x y with
   | false=>rfl
   | true=>exact absurd (Nat.eq_of_beq_eq_true hb) h
  rw [h1,h2]
theorem blt_cast (x y:Nat):decide ((x:Int) < (y:Int))=Nat.blt x y:=by
 by_cases h:x < y
 ·have h2:Nat.blt x y=true:=by simpa [Nat.blt_eq] using h
  rw [h2]; simp; exact h
 ·cases hb:Nat.blt x y with
  | true=>exact absurd (blt_true hb) h
  | false=>simp; omega
theorem ble_cast (x y:Nat):decide ((x:Int)≤(y:Int))=Nat.ble x y:=by
 by_cases h:x≤y
 ·rw [Nat.ble_eq_true_of_le h]; simp; exact h
 ·cases hb:Nat.ble x y with
  | true=>exact absurd (Nat.le_of_ble_eq_true hb) h
  | false=>simp; omega
theorem dec_blt (x y:Nat):decide (x < y)=Nat.blt x y:=by rw [← blt_cast]; simp
theorem dec_ble (x y:Nat):decide (x≤y)=Nat.ble x y:=by rw [← ble_cast]; simp
theorem fastNat_sound {op:BinOp} {k:IntKind} {x y:Nat} {v:Value} {t:TypeId} (h:fastNat op k x y=some v) (hx:x < lim k) (hy:y < lim k) (w:World) :
  (binOp op t (.int k (x:Int)) (.int k (y:Int))).run P w= .ok v w:=by
 unfold fastNat at h
 split at h
 ·rw [wrapNat_spec h]; simp [binOp,Op.intArith]
 ·rw [subNat_spec h hx hy]; simp [binOp,Op.intArith]
 ·rw [wrapNat_spec h]; simp [binOp,Op.intArith]
 ·cases h; simp [binOp,Op.intCmp,beq_cast]
 ·cases h
  have:((x:Int) !=(y:Int))= !Nat.beq x y:=by rw [bne,beq_cast]
  simp [binOp,Op.intCmp,this]
 ·cases h; simp [binOp,Op.intCmp,dec_blt]
 ·cases h; simp [binOp,Op.intCmp,dec_ble]
 ·cases h; simp [binOp,Op.intCmp,dec_blt]
 ·cases h; simp [binOp,Op.intCmp,dec_ble]
 ·cases h0:Nat.beq y 0 with
  | true=>rw [h0] at h; cases h
  | false=>
   rw [h0] at h
   have hy0:y≠0:=fun he=>by subst he; cases h0
   rw [wrapNat_spec h]
   have e:(x:Int).tdiv (y:Int)=((x.div y:Nat):Int):=rfl
   simp [binOp,Op.intDiv,hy0,e]
 ·cases h0:Nat.beq y 0 with
  | true=>rw [h0] at h; cases h
  | false=>
   rw [h0] at h
   have hy0:y≠0:=fun he=>by subst he; cases h0
   cases h
   have e:(x:Int).tmod (y:Int)=((x.mod y:Nat):Int):=rfl
   simp [binOp,Op.intDiv,hy0,e]
 ·cases h; simpa [binOp] using run_bits hx hy (land_lim hx) (.inl ⟨rfl,rfl⟩) w
 ·cases h; simpa [binOp] using run_bits hx hy (lor_lim hx hy) (.inr (.inl ⟨rfl,rfl⟩)) w
 ·cases h; simpa [binOp] using run_bits hx hy (xor_lim hx hy) (.inr (.inr ⟨rfl,rfl⟩)) w
 ·cases h
theorem fdiv_nat (x n:Nat):(x:Int).fdiv (2 ^ n)=((x / 2 ^ n:Nat):Int):=by
 rw [Int.fdiv_eq_ediv_of_nonneg _ (by have:=Int.pow_pos (n:=2) (m:=n) (by decide); omega)]
 simp
theorem min_bits {k:IntKind} {x y:Nat} (hx:x < lim k):x / 2 ^ (min y k.bits)=x / 2 ^ y:=by
 by_cases h:y≤k.bits
 ·rw [Nat.min_eq_left h]
 ·have hx':x < 2 ^ k.bits:=Nat.lt_of_lt_of_le hx lim_le
  rw [Nat.min_eq_right (by omega),Nat.div_eq_of_lt hx',Nat.div_eq_of_lt (Nat.lt_of_lt_of_le hx' (Nat.pow_le_pow_right (by omega) (by omega)))]
theorem wrap_shift {k:IntKind} {x y:Nat} (h:k.bits≤y):k.wrap (((x*2 ^ y:Nat)):Int)=k.wrap (((x*2 ^ k.bits:Nat)):Int):=by
 have e:x*2 ^ y=(x*2 ^ (y - k.bits))*2 ^ k.bits:=by
  rw [Nat.mul_assoc,← Nat.pow_add]; congr 2; omega
 have m:∀ z:Nat,k.wrap (((z*2 ^ k.bits:Nat)):Int)=k.wrap 0:=by
  intro z
  unfold IntKind.wrap
  simp
 rw [e,m,m]
theorem fastShift_sound {op:BinOp} {k k':IntKind} {x y:Nat} {v:Value} {t:TypeId} (h:fastShift op k x y=some v) (hx:x < lim k) (w:World) :
  (binOp op t (.int k (x:Int)) (.int k' (y:Int))).run P w= .ok v w:=by
 have hy:¬ ((y:Int) < 0):=by omega
 unfold fastShift at h
 split at h
 ·cases hb:Nat.blt y 64 with
  | false=>rw [hb] at h; cases h
  | true=>
   rw [hb] at h
   rw [wrapNat_spec h]
   simp only [binOp,Op.shift,hy,if_false,Int.toNat_natCast,Sem.run_pure]
   congr 2
   have e:((Nat.mul x (Nat.pow 2 y):Nat):Int)=((x*2 ^ y:Nat):Int):=rfl
   rw [e]
   by_cases hle:y≤k.bits
   ·rw [Nat.min_eq_left hle]; simp
   ·rw [Nat.min_eq_right (by omega),wrap_shift (by omega)]; simp
 ·cases hb:Nat.blt y 64 with
  | false=>rw [hb] at h; cases h
  | true=>
   rw [hb] at h
   cases h
   simp only [binOp,Op.shift,hy,if_false,Int.toNat_natCast,Sem.run_pure,fdiv_nat,min_bits hx]
   rfl
 ·cases h
theorem run_eqGuard_int {op:BinOp} {t:TypeId} {a b:Operand} {k k':IntKind} {x y:Int} (w:World):(eqGuard op t a b (.int k x) (.int k' y)).run P w= .ok () w:=by
 unfold eqGuard; cases op <;> simp
theorem evalFast_sound {ρ ρ':Operand→Value} {o:Oper} {v:Value} (h:evalFast P ρ o.op=some v) (hr:OpRel G N φ o ρ ρ') :
  ∃ v',VRel G N φ v v'∧∀ w,(execOp ρ' o).run P w= .ok (.value v') w:=by
 obtain ⟨dst,op,type,pos,after,guard⟩:=o
 unfold OpRel at hr
 simp only at h hr
 unfold evalFast at h
 have flatN:∀ {op:BinOp} {k:IntKind} {x y:Nat} {v:Value},fastNat op k x y=some v→flat v=true:=by
  intro op k x y v h
  unfold fastNat at h
  split at h <;> first
   | (cases h; done)
   | (rw [wrapNat_spec h]; rfl)
   | (cases h; rfl)
   | (unfold subNat at h; cases h1:Nat.ble y x <;> rw [h1] at h <;> cases h2:uns k <;> simp only [h2,cond_true,cond_false] at h <;>
     first | (cases h; rfl) | (rw [wrapNat_spec h]; rfl) | (cases h3:Nat.ble (Nat.sub y x) (lim k) <;> rw [h3] at h <;> cases h; rfl))
   | (cases h0:Nat.beq y 0 <;> rw [h0] at h <;> first | (cases h; done) | (rw [wrapNat_spec h]; rfl) | (cases h; rfl))
 split at h
 ·rename_i bop t a b yt
  split at h
  ·rename_i k x k' y ha hb
   have ea:ρ' a= .int k (Int.ofNat x):=by have:=hr a (by simp [Op.operands]); rw [ha] at this; exact this.int_inv
   have eb:ρ' b= .int k' (Int.ofNat y):=by have:=hr b (by simp [Op.operands]); rw [hb] at this; exact this.int_inv
   have hg:=fun w=>run_eqGuard_int (P:=P) (op:=bop) (t:=t) (a:=a) (b:=b) (k:=k) (k':=k') (x:=Int.ofNat x) (y:=Int.ofNat y) w
   have fin:flat v=true→(∀ w,(binOp bop t (.int k (Int.ofNat x)) (.int k' (Int.ofNat y))).run P w= .ok v w)→
     ∃ v',VRel G N φ v v'∧∀ w,(execOp ρ' ⟨dst,.binOp bop t a b yt,type,pos,after,guard⟩).run P w= .ok (.value v') w:=fun hf hrun=>
    ⟨v,.flat hf,fun w=>by simp only [execOp,ea,eb,Sem.run_bind,hg,Result.andThen_ok,hrun,Sem.run_pure]⟩
   have shiftCase:∀ (hs:fastShift bop k x y=some v),x < lim k→∃ v',VRel G N φ v v'∧∀ w,(execOp ρ' ⟨dst,.binOp bop t a b yt,type,pos,after,guard⟩).run P w= .ok (.value v') w:=by
    intro hs hx
    refine fin ?_ (fun w=>fastShift_sound hs hx w)
    unfold fastShift at hs
    split at hs
    ·cases hb:Nat.blt y 64 <;> rw [hb] at hs
     ·cases hs
     ·rw [wrapNat_spec hs]; rfl
    ·cases hb:Nat.blt y 64 <;> rw [hb] at hs <;> cases hs
     rfl
    ·cases hs
   split at h
   ·cases hx:Nat.blt x (lim k) with
    | false=>rw [hx] at h; cases h
    | true=>rw [hx] at h; exact shiftCase h (blt_true hx)
   ·cases hx:Nat.blt x (lim k) with
    | false=>rw [hx] at h; cases h
    | true=>rw [hx] at h; exact shiftCase h (blt_true hx)
   ·cases hc:(kindEq k k' && (Nat.blt x (lim k) && Nat.blt y (lim k))) with
    | false=>rw [hc] at h; cases h
    | true=>
     rw [hc] at h
     simp only [Bool.and_eq_true] at hc
     obtain ⟨hk,hx,hy⟩:=hc
     cases kindEq_spec hk
     exact fin (flatN h) (fun w=>fastNat_sound h (blt_true hx) (blt_true hy) w)
  ·cases h
 ·rename_i s d a
  split at h
  ·rename_i k0 x ha
   have ea:ρ' a= .int k0 (Int.ofNat x):=by have:=hr a (by simp [Op.operands]); rw [ha] at this; exact this.int_inv
   split at h
   ·rename_i k hud
    split at h
    ·rename_i ds hus
     rw [wrapNat_spec h]
     refine ⟨_,.flat rfl,fun w=> ?_⟩
     simp only [execOp,ea,convert,Sem.run_bind,run_underlying hus,run_underlying hud,Result.andThen_ok,Sem.run_pure]
     simp [Conv.intToInt]
    ·cases h
   ·cases h
  ·cases h
 ·cases h
end Go.Ev
namespace Go.Ev
variable {P:Program} {G N0 N:Nat} {g:Glob} {φ:Phi} {st st':St} {w:World}
def bytesArr (bs:List UInt8):ByteArray:=⟨⟨bs⟩⟩
theorem bytesOf_spec:∀ {l:List Value} {bs:List UInt8},bytesOf l=some bs→∃ ns:List Int,l=ns.map (Value.int .u8)∧bs=ns.map fun n=>UInt8.ofNat n.toNat
 | [],bs,h=>by simp [bytesOf] at h; exact ⟨[],rfl,by simp [h]⟩
 | v::l,bs,h=>by
  unfold bytesOf at h
  split at h
  ·rename_i heq; cases heq
  ·rename_i n l' heq
   cases heq
   split at h
   ·rename_i bs' hbs
    cases h
    obtain ⟨ns,h1,h2⟩:=bytesOf_spec hbs
    exact ⟨n::ns,by simp [h1],by simp [h2]⟩
   ·cases h
  ·cases h
theorem fold_push (ns:List Int):∀ (s:ByteArray),ns.foldl (fun r n=>r.push (UInt8.ofNat n.toNat)) s=⟨⟨s.data.toList++ns.map fun n=>UInt8.ofNat n.toNat⟩⟩:=by
 induction ns with
 | nil=>intro s; simp
 | cons n ns ih=>
  intro s
  rw [List.foldl_cons,ih]
  simp [ByteArray.push]
theorem LRel.ints {ns:List Int} {k:IntKind}:∀ {m:List Value},LRel G N φ (ns.map (Value.int k)) m→m=ns.map (Value.int k):=by
 induction ns with
 | nil=>intro m h; cases m with | nil=>rfl | cons=>exact h.elim
 | cons n ns ih=>
  intro m h
  cases m with
  | nil=>exact h.elim
  | cons u m=>obtain ⟨h1,h2⟩:=h; rw [h1.int_inv,ih h2]; rfl
theorem evalToString_sound (hR:R G N0 g φ st w) {src dst:TypeId} {x x' v:Value} (h:evalToString P G g st src dst x=some v) (hx:VRel G st.next φ x x') :
  VRel G st.next φ v v∧(convert src dst x').run P w= .ok v w:=by
 unfold evalToString at h
 split at h
 ·rename_i e b o len cap hus hud
  split at h
  ·rename_i hue
   split at h
   ·rename_i l hl
    split at h
    ·rename_i bs hbs
     cases h
     obtain ⟨hg,hb,a',cap',rfl,hcase⟩:=hx.slice_inv
     obtain ⟨m,h1,h2,h3⟩:=ldN_sound hR _ _ _ hl
     obtain ⟨ns,rfl,rfl⟩:=bytesOf_spec hbs
     obtain rfl:=h1.ints
     refine ⟨.flat rfl,?_⟩
     have hcells:(loadCells a' len).run P w= .ok (ns.map (Value.int .u8)).toArray w:=by
      rcases hcase with ⟨_,_,rfl⟩ | ⟨_,_,_,_,rfl⟩ | ⟨_,_,rfl,_⟩
      ·rw [Phi.at_conc hg,← h2]; exact run_loadCells_list w _ _ h3
      ·rw [Phi.at_conc hg,← h2]; exact run_loadCells_list w _ _ h3
      ·have:ns=[]:=by
        have:=h2; simp at this; exact this
       subst this; rfl
     have:=run_bytesToString (P:=P) w a' len cap' ns hcells
     rw [fold_push] at this
     simp only [convert,Sem.run_bind,run_underlying hus,run_underlying hud,run_underlying hue,Result.andThen_ok]
     rw [this]
     congr 1
    ·cases h
   ·cases h
  ·cases h
 ·cases h
theorem R.newGrown (hR:R G N0 g φ st w) {l m:List Value} {e:TypeId} {a:Array Value} {fz:Nat × Nat} (hl:LRel G st.next φ l m) (ha:∀ (i:Nat) (v:Value),m[i]?=some v→a[i]?=some v)
  (hfz:fz.1=0∧fz.2=0∨a.size≤fz.1) :
  ∃ φ',R G N0 g φ' (st.newGrown l e) (w.alloc (.cells a e fz))∧Tr φ st w φ' (st.newGrown l e) (w.alloc (.cells a e fz))∧φ' st.next=⟨w.heap.size,0,a.size⟩:=by
 have hlen:l.length≤a.size:=by
  rcases Nat.lt_or_ge a.size l.length with h | h
  ·exfalso
   have hm:a.size < m.length:=by rw [← hl.get.1]; exact h
   have:=ha a.size m[a.size] (by simp)
   simp at this
  ·exact h
 have:=hR.new (o:= .grown (T.lay .nil 0 l) l.length e st.next) (ob:= .cells a e fz) (l:=⟨w.heap.size,0,a.size⟩) (fams':=st.fams.set st.next ⟨st.next,st.next⟩) rfl
  (fun r f hr hf=>⟨f,by rw [T.get_set,if_neg (by omega)]; exact hf,rfl,Nat.le_refl _⟩)
  (fun r f' hf ht=>by
   rw [T.get_set] at hf
   by_cases hrn:r=st.next
   ·rw [if_pos hrn] at hf; cases hf; simp at ht
   ·rw [if_neg hrn] at hf; exact hf)
  (fun φ' h1 h2=>by
   refine ⟨a,fz,⟨st.next,st.next⟩,by rw [h1,heap_alloc,if_pos rfl],fun _=>hfz,by rw [h1],by rw [h1]; simpa using hlen,by simp [T.get_set],Nat.le_refl _,Nat.le_refl _,fun _=> ?_⟩
   rw [h1]
   intro i hi
   obtain ⟨v,v',k1,k2,k3⟩:=LRel.cells (hl.mono (Nat.le_succ st.next) h2) i hi
   exact ⟨v,v',k1,ha _ _ (by simpa using k2),k3⟩)
 exact ⟨_,this.1,this.2,Phi.upd_at _ _ _⟩
end Go.Ev
namespace Go.Ev
variable {P:Program} {G N0 N:Nat} {g:Glob} {φ:Phi} {st st':St} {w:World}
theorem run_store_row (P:Program) {B off:Nat} {e:TypeId} {fz:Nat × Nat}:∀ (m:List Value) (i:Nat) (w:World) (a:Array Value),w.heap[B]?=some (.cells a e fz)→
  (fz.1=0∧fz.2=0∨a.size≤fz.1)→off+i+m.length≤a.size→(∀ v ∈ m,v.oneCell'=true)→
  ∃ w' a',(storeCells ⟨B,off,none⟩ m i).run P w= .ok () w'∧w'.heap[B]?=some (.cells a' e fz)∧a'.size=a.size∧
   (∀ (j:Nat) (u:Value),m[j]?=some u→a'[off+i+j]?=some u)∧(∀ k,k < off+i→a'[k]?=a[k]?)∧
   (∀ k,k≠B→w'.heap[k]?=w.heap[k]?)∧w'.heap.size=w.heap.size∧w'.os=w.os∧w'.tape=w.tape∧w'.output=w.output
 | [],i,w,a,hB,_,_,_=>⟨w,a,rfl,hB,rfl,fun j u h=>by simp at h,fun _ _=>rfl,fun _ _=>rfl,rfl,rfl,rfl,rfl⟩
 | v::m,i,w,a,hB,hfz,hle,h1=>by
  simp only [List.length_cons] at hle
  have hset:=heap_setCell (o:=off+i) (v:=v) hB
  obtain ⟨w',a',k1,k2,k3,k4,k5,k6,k7,k8,k9,k10⟩:=run_store_row P (off:=off) m (i+1) (w.setCell ⟨B,off+i,none⟩ v) (a.setIfInBounds (off+i) v) (by rw [hset,if_pos rfl]) (by simpa using hfz)
   (by simp; omega) (fun u hu=>h1 u (by simp [hu]))
  have hcell:w.cell? ⟨B,off+i,none⟩=some (a[off+i]'(by omega)):=by rw [cell_of_block hB]; simp
  have hfro:w.frozen? ⟨B,off+i,none⟩=false:=by
   simp only [World.frozen?,hB]
   rcases hfz with ⟨h1,h2⟩ | h1
   ·simp [h2]
   ·simp; omega
  have hadd:(⟨B,off,none⟩:Addr).add i=⟨B,off+i,none⟩:=by unfold Addr.add; split <;> simp_all
  refine ⟨w',a',?_,k2,by simpa using k3,fun j u hj=> ?_,fun k hk=> ?_,fun k hk=> ?_,by simpa [World.setCell] using k7,k8,k9,k10⟩
  ·simp only [storeCells,Sem.run_bind,hadd,run_store P w _ v _ (h1 v (by simp)),hcell,hfro,Bool.false_eq_true,if_false,Result.andThen_ok,k1]
  ·cases j with
   | zero=>
    have:u=v:=by simpa using hj.symm
    subst this
    rw [Nat.add_zero,k5 (off+i) (by omega),Array.getElem?_setIfInBounds,if_pos rfl,if_pos (by omega)]
   | succ j=>
    have:=k4 j u (by simpa using hj)
    rwa [show off+(i+1)+j=off+i+(j+1) by omega] at this
  ·rw [k5 k (by omega),Array.getElem?_setIfInBounds,if_neg (by omega)]
  ·rw [k6 k hk,hset,if_neg hk]
theorem R.extend (hR:R G N0 g φ st w) {b k r o:Nat} {c:T Value} {e:TypeId} {f:Fam} {w':World} {a a':Array Value} {fz:Nat × Nat} {l m:List Value}
  (hget:st.heap.get b=some (.grown c k e r)) (hfam:st.fams.get r=some f) (htip:f.tip=b) (hlow:f.low≤b)
  (ha:w.heap[(φ b).block]?=some (.cells a e fz)) (ha':w'.heap[(φ b).block]?=some (.cells a' e fz)) (hsz:a'.size=a.size)
  (hold:∀ i,i < (φ b).shift+k→a'[i]?=a[i]?) (hoth:∀ i,i≠(φ b).block→w'.heap[i]?=w.heap[i]?)
  (hhs:w'.heap.size=w.heap.size) (hos:w'.os=w.os) (htape:w'.tape=w.tape) (hout:w'.output=w.output)
  (hl:LRel G st.next φ l m) (hm:∀ (i:Nat) (u:Value),m[i]?=some u→a'[(φ b).shift+o+i]?=some u) (hlk:k≤o+l.length) (hfit:(φ b).shift+o+l.length≤a.size) :
  R G N0 g (φ.upd st.next ⟨(φ b).block,(φ b).shift+o,(φ b).total⟩) (st.moreGrown l e r f.low) w'∧
   Tr φ st w (φ.upd st.next ⟨(φ b).block,(φ b).shift+o,(φ b).total⟩) (st.moreGrown l e r f.low) w':=by
 obtain ⟨j1,j2,j3,j4,a0,fz0,f0,ha0,hfz0,hsz0,hle0,hfam0,htip0,hro0,hcs0⟩:=hR.obj b _ hget
 rw [ha] at ha0; cases ha0
 rw [hfam] at hfam0; cases hfam0
 have hext:∀ i,i < st.next→φ.upd st.next ⟨(φ b).block,(φ b).shift+o,(φ b).total⟩ i=φ i:=fun i hi=>Phi.upd_ne _ _ (by omega)
 have hat:=Phi.upd_at φ st.next ⟨(φ b).block,(φ b).shift+o,(φ b).total⟩
 have hrn:r < st.next:=hR.root_lt hget rfl
 have hfs:∀ r',(st.fams.set r ⟨st.next,f.low⟩).get r'=if r'=r then some ⟨st.next,f.low⟩ else st.fams.get r':=fun r'=>T.get_set _ _ _ _
 have look:∀ id oi,(st.heap.set st.next (.grown (T.lay .nil 0 l) l.length e r)).get id=some oi→(id=st.next∧oi= .grown (T.lay .nil 0 l) l.length e r)∨(id < st.next∧st.heap.get id=some oi):=by
  intro id oi h
  rw [T.get_set] at h
  by_cases hid:id=st.next
  ·rw [if_pos hid] at h; cases h; exact .inl ⟨hid,rfl⟩
  ·rw [if_neg hid] at h; exact .inr ⟨(hR.obj id oi h).2.1,h⟩
 unfold St.moreGrown
 refine ⟨⟨Nat.le_succ_of_le hR.base,by rw [hhs]; exact hR.room,fun id oi h=> ?_,fun i j oi oj hi hj hbl=> ?_,fun i j oi oj r' f' hi hri hj hrj hf hjt hbl=> ?_,fun b' o' v hv=> ?_⟩,?_⟩
 ·rcases look id oi h with ⟨rfl,rfl⟩ | ⟨hlt,h1⟩
  ·refine ⟨hR.base,Nat.lt_succ_self _,by rw [hat]; exact j3,by rw [hat,hhs]; exact j4,?_⟩
   refine ⟨a',fz,⟨st.next,f.low⟩,by rw [hat]; exact ha',fun _=>by rw [hsz]; exact hfz0 hlow,by rw [hat,hsz]; exact hsz0,by rw [hat,hsz]; exact hfit,by rw [hfs,if_pos rfl],Nat.le_refl _,by omega,fun _=> ?_⟩
   rw [hat]
   intro i hi
   obtain ⟨v,v',k1,k2,k3⟩:=LRel.cells (hl.mono (φ':=φ.upd st.next ⟨(φ b).block,(φ b).shift+o,(φ b).total⟩) (Nat.le_succ st.next) hext) i hi
   exact ⟨v,v',k1,hm _ _ (by simpa using k2),k3⟩
  ·obtain ⟨k1,k2,k3,k4,k5⟩:=hR.obj id oi h1
   refine ⟨k1,by simp only; omega,by rw [hext id hlt]; exact k3,by rw [hext id hlt,hhs]; exact k4,?_⟩
   by_cases hbl:(φ id).block=(φ b).block
   ·have hshare:oi.root?=some r:=by
     rcases hR.sep id b oi _ h1 hget hbl with h | ⟨r',hr1,hr2⟩
     ·subst h; rw [hget] at h1; cases h1; rfl
     ·cases hr2; exact hr1
    have hmost:=hR.tip id b oi _ r f h1 hshare hget rfl hfam htip.symm hbl
    cases oi with
    | grown ci ni ei ri=>
     cases hshare
     obtain ⟨a2,fz2,f2,ha2,hfz2,hsz2,hle2,hfam2,htip2,hro2,hcs2⟩:=k5
     rw [hbl,ha] at ha2; cases ha2
     rw [hfam] at hfam2; cases hfam2
     refine ⟨a',fz,⟨st.next,f.low⟩,by rw [hext id hlt,hbl]; exact ha',fun hl=>by rw [hsz]; exact hfz2 hl,by rw [hext id hlt,hsz]; exact hsz2,by rw [hext id hlt,hsz]; exact hle2,by rw [hfs,if_pos rfl],by simp only; omega,hro2,fun hlow=> ?_⟩
     rw [hext id hlt]
     intro i hi
     obtain ⟨v,v',q1,q2,q3⟩:=hcs2 hlow i hi
     refine ⟨v,v',q1,?_,q3.mono (Nat.le_succ _) hext⟩
     simp only [AObj.known] at hmost
     rw [hold _ (by omega)]; exact q2
    | cells=>simp [AObj.root?] at hshare
    | map=>simp [AObj.root?] at hshare
    | iter=>simp [AObj.root?] at hshare
    | walk=>simp [AObj.root?] at hshare
    | loop=>simp [AObj.root?] at hshare
    | marks=>simp [AObj.root?] at hshare
    | spent=>simp [AObj.root?] at hshare
   ·refine ObjRel.congr (st:=st) (w:=w) (hext id hlt) hext (Nat.le_succ _) (hoth _ hbl) (fun r' hr' f' hf'=> ?_) k5
    by_cases hrr:r'=r
    ·subst hrr
     rw [hfam] at hf'; cases hf'
     exact ⟨⟨st.next,f.low⟩,by rw [hfs,if_pos rfl],rfl,by simp only; omega⟩
    ·exact ⟨f',by rw [hfs,if_neg hrr]; exact hf',rfl,Nat.le_refl _⟩
 ·have side:∀ j oj,st.heap.get j=some oj→(φ b).block=(φ j).block→oj.root?=some r:=by
   intro j oj hj hbl
   rcases hR.sep j b oj _ hj hget hbl.symm with h | ⟨r',hr1,hr2⟩
   ·subst h; rw [hget] at hj; cases hj; rfl
   ·cases hr2; exact hr1
  rcases look i oi hi with ⟨rfl,rfl⟩ | ⟨hi1,hi2⟩ <;> rcases look j oj hj with ⟨rfl,rfl⟩ | ⟨hj1,hj2⟩
  ·exact .inl rfl
  ·rw [hat,hext j hj1] at hbl
   exact .inr ⟨r,rfl,side j oj hj2 hbl⟩
  ·rw [hat,hext i hi1] at hbl
   exact .inr ⟨r,side i oi hi2 hbl.symm,rfl⟩
  ·rw [hext i hi1,hext j hj1] at hbl
   exact hR.sep i j oi oj hi2 hj2 hbl
 ·rw [hfs] at hf
  by_cases hrr:r'=r
  ·subst hrr
   rw [if_pos rfl] at hf; cases hf
   have hjn:j=st.next:=hjt
   subst hjn
   rcases look _ oj hj with ⟨_,rfl⟩ | ⟨hlt,_⟩
   ·rcases look i oi hi with ⟨rfl,rfl⟩ | ⟨hi1,hi2⟩
    ·exact Nat.le_refl _
    ·rw [hat,hext i hi1] at hbl ⊢
     have:=hR.tip i b oi _ r' f hi2 hri hget rfl hfam htip.symm hbl
     simp only [AObj.known] at this ⊢
     omega
   ·omega
  ·rw [if_neg hrr] at hf
   rcases look i oi hi with ⟨rfl,rfl⟩ | ⟨hi1,hi2⟩
   ·cases hri; exact absurd rfl hrr
   ·rcases look j oj hj with ⟨rfl,rfl⟩ | ⟨hj1,hj2⟩
    ·cases hrj; exact absurd rfl hrr
    ·rw [hext i hi1,hext j hj1] at hbl ⊢
     exact hR.tip i j oi oj r' f' hi2 hri hj2 hrj hf hjt hbl
 ·obtain ⟨h1,h2,h3,h4⟩:=hR.glob b' o' v hv
  exact ⟨h1,h2,by rw [cell_congr (hoth b' (by omega))]; exact h3,h4⟩
 ·refine ⟨Nat.le_succ _,hext,fun id oi hid h=> ?_,fun id oi hid h=> ?_,fun q _ hq=>hoth q fun he=>hq b _ hget he.symm,by rw [hhs]; exact Nat.le_refl _,hos,htape,hout⟩
  ·rcases look id oi h with ⟨rfl,rfl⟩ | ⟨_,h1⟩
   ·omega
   ·exact ⟨oi,h1⟩
  ·rcases look id oi h with ⟨rfl,rfl⟩ | ⟨h1,_⟩
   ·exact .inr ⟨b,_,hget,by rw [hat]⟩
   ·omega
end Go.Ev
namespace Go.Ev
variable {P:Program} {G N0 N:Nat} {g:Glob} {φ:Phi} {st st':St} {w:World}
theorem R.regrow (hR:R G N0 g φ st w) {b k r:Nat} {c:T Value} {e:TypeId} {f:Fam} {l m:List Value} {a:Array Value}
  (hget:st.heap.get b=some (.grown c k e r)) (hfam:st.fams.get r=some f) (htip:f.tip=b) (hl:LRel G st.next φ l m) (ha:∀ (i:Nat) (v:Value),m[i]?=some v→a[i]?=some v) :
  ∃ φ',R G N0 g φ' (st.moreGrown l e r f.low) (w.alloc (.cells a e (0,0)))∧Tr φ st w φ' (st.moreGrown l e r f.low) (w.alloc (.cells a e (0,0)))∧φ' st.next=⟨w.heap.size,0,a.size⟩:=by
 have hlen:l.length≤a.size:=by
  rcases Nat.lt_or_ge a.size l.length with h | h
  ·exfalso
   have hm:a.size < m.length:=by rw [← hl.get.1]; exact h
   have:=ha a.size m[a.size] (by simp)
   simp at this
  ·exact h
 have hrn:r < st.next:=hR.root_lt hget rfl
 obtain ⟨_,j2,_,_,_,_,f0,_,_,_,_,hfam0,htip0,hro0,_⟩:=hR.obj b _ hget
 rw [hfam] at hfam0; cases hfam0
 have:=hR.new (o:= .grown (T.lay .nil 0 l) l.length e r) (ob:= .cells a e (0,0)) (l:=⟨w.heap.size,0,a.size⟩) (fams':=st.fams.set r ⟨st.next,f.low⟩) rfl
  (fun r' f' hr' hf'=>by
   by_cases hrr:r'=r
   ·subst hrr
    rw [hfam] at hf'; cases hf'
    exact ⟨⟨st.next,f.low⟩,by rw [T.get_set,if_pos rfl],rfl,by
     show f.tip≤st.next
     omega⟩
   ·exact ⟨f',by rw [T.get_set,if_neg hrr]; exact hf',rfl,Nat.le_refl _⟩)
  (fun r' f' hf' ht=>by
   rw [T.get_set] at hf'
   by_cases hrr:r'=r
   ·rw [if_pos hrr] at hf'; cases hf'; simp at ht
   ·rw [if_neg hrr] at hf'; exact hf')
  (fun φ' h1 h2=>by
   refine ⟨a,(0,0),⟨st.next,f.low⟩,by rw [h1,heap_alloc,if_pos rfl],fun _=> .inl ⟨rfl,rfl⟩,by rw [h1],by rw [h1]; simpa using hlen,by simp [T.get_set],Nat.le_refl _,by omega,fun _=> ?_⟩
   rw [h1]
   intro i hi
   obtain ⟨v,v',k1,k2,k3⟩:=LRel.cells (hl.mono (Nat.le_succ st.next) h2) i hi
   exact ⟨v,v',k1,ha _ _ (by simpa using k2),k3⟩)
 exact ⟨_,this.1,this.2,Phi.upd_at _ _ _⟩
theorem srcCells_sound (hR:R G N0 g φ st w) {size n:Nat} {x x':Value} {l:List Value} (h:srcCells G g st size x=some (n,l)) (hx:VRel G st.next φ x x') :
  ∃ m,LRel G st.next φ l m∧m.length=n*size∧(∀ w,(Builtin.lenOf x').run P w= .ok n w)∧(∀ w':World,w'.heap=w.heap→(Builtin.firstCells size n x').run P w'= .ok m.toArray w'):=by
 unfold srcCells at h
 split at h
 ·rename_i n' c
  split at h
  ·rename_i h0
   cases h
   obtain rfl:x'= .slice none n' c:=hx.flat_eq rfl
   subst h0
   exact ⟨[],trivial,by simp,fun w=>rfl,fun w' _=>rfl⟩
  ·cases h
 ·rename_i b o n' c
  obtain ⟨hg,hb,a',cap',rfl,hcase⟩:=hx.slice_inv
  split at h
  ·rename_i l' hl
   cases h
   obtain ⟨m,h1,h2,h3⟩:=ldN_sound hR _ _ _ hl
   refine ⟨m,h1,h2,fun w=>rfl,fun w' hw'=> ?_⟩
   have h3':∀ (j:Nat) (v:Value),m[j]?=some v→w'.cell? ((φ.conc G b o).add j)=some v:=fun j v hj=>by
    have:=h3 j v hj; simpa [World.cell?,hw'] using this
   show (loadCells a' (n*size)).run P w'=_
   rcases hcase with ⟨_,_,rfl⟩ | ⟨_,_,_,_,rfl⟩ | ⟨_,_,rfl,_⟩
   ·rw [Phi.at_conc hg,← h2]; exact run_loadCells_list w' _ _ h3'
   ·rw [Phi.at_conc hg,← h2]; exact run_loadCells_list w' _ _ h3'
   ·have:m=[]:=List.eq_nil_of_length_eq_zero (by simpa using h2)
    subst this
    simp [loadCells,loadCellsFrom]
  ·cases h
 ·rename_i s
  split at h
  ·rename_i h1
   cases h
   obtain rfl:x'= .string s:=hx.string_inv
   have hfl:flatL (s.data.toList.map fun b=>Value.int .u8 b.toNat)=true:=by
    generalize s.data.toList=l
    induction l with
    | nil=>rfl
    | cons b l ih=>simp only [List.map_cons,flatL,ih]; rfl
   refine ⟨_,LRel.refl_flat hfl,by subst h1; rw [List.length_map,Nat.mul_one,Array.length_toList]; rfl,fun w=>rfl,fun w' _=> ?_⟩
   have he:s.extract 0 s.size=s:=ByteArray.extract_zero_size
   have he2:(s.data.map fun b=>Value.int .u8 b.toNat)=(s.data.toList.map fun b=>Value.int .u8 b.toNat).toArray:=by
    apply Array.ext'; simp
   simp only [Builtin.firstCells,he,he2]
   rfl
  ·cases h
 ·cases h
section
variable {sT xT ty elem:TypeId} {i:TypeInfo} {n:Nat} {m:List Value} {x':Value} {d:TypeDesc}
def SrcT (d:TypeDesc):Prop:=d= .string∨∃ e,d= .slice e
theorem run_append_in (ht:P.underlying sT=some (.slice elem)) (hi:P.info? elem=some i) (hx:P.underlying xT=some d) (hd:SrcT d)
  (hlen:∀ w,(Builtin.lenOf x').run P w= .ok n w) (hf:(Builtin.firstCells i.size n x').run P w= .ok m.toArray w) {a:Addr} {len cap:Nat} {w':World} (hfit:len+n≤cap)
  (hst:(storeCells (a.add (len*i.size)) m 0).run P w= .ok () w') :
  (Builtin.append_ #[sT,xT] ty #[.slice (some a) len cap,x']).run P w= .ok (.slice (some a) (len+n) cap) w':=by
 rcases hd with rfl | ⟨e,rfl⟩
 ·simp [Builtin.append_,run_underlying ht,run_underlying hx,sizeOf,typeInfo,hi,hlen,hfit,hf,hst]
 ·simp [Builtin.append_,run_underlying ht,run_underlying hx,sizeOf,typeInfo,hi,hlen,hfit,hf,hst]
theorem run_append_nothing (ht:P.underlying sT=some (.slice elem)) (hi:P.info? elem=some i) (hx:P.underlying xT=some d) (hd:SrcT d)
  (hlen:∀ w,(Builtin.lenOf x').run P w= .ok 0 w) (hf:(Builtin.firstCells i.size 0 x').run P w= .ok #[] w) {a:Option Addr} {len cap:Nat} (hfit:len≤cap) :
  (Builtin.append_ #[sT,xT] ty #[.slice a len cap,x']).run P w= .ok (.slice a len cap) w:=by
 rcases hd with rfl | ⟨e,rfl⟩ <;> cases a <;>
  simp [Builtin.append_,run_underlying ht,run_underlying hx,sizeOf,typeInfo,hi,hlen,hfit,hf,storeCells]
theorem run_append_out (ht:P.underlying sT=some (.slice elem)) (hi:P.info? elem=some i) (hx:P.underlying xT=some d) (hd:SrcT d) {z:Value} (hz:i.zero=some z) (hbytes:i.bytes≠0)
  (hlen:∀ w,(Builtin.lenOf x').run P w= .ok n w) (hf:∀ w':World,w'.heap=w.heap→(Builtin.firstCells i.size n x').run P w'= .ok m.toArray w') {a:Option Addr} {len cap:Nat} {old:List Value}
  (hold:∀ w':World,w'.heap=w.heap→(Builtin.firstCells i.size len (.slice a len cap)).run P w'= .ok old.toArray w') (hno:cap < len+n)
  (hcap:Builtin.nextslicecap (len+n) cap*i.bytes≤281474976710656) :
  (Builtin.append_ #[sT,xT] ty #[.slice a len cap,x']).run P w= .ok (.slice (some ⟨w.heap.size,0,none⟩) (len+n) (grownCap w (len+n) cap elem))
   (w.drew.alloc (.cells (old.toArray++m.toArray++Builtin.zeroCells z.cells (grownCap w (len+n) cap elem - (len+n))) elem (0,0))):=by
 have h1:¬ len+n≤cap:=by omega
 have h2:len+n≤281474976710656:=by
  have k1:=le_nextslicecap hno
  have k2:Builtin.nextslicecap (len+n) cap*1≤Builtin.nextslicecap (len+n) cap*i.bytes:=Nat.mul_le_mul_left _ (by omega)
  omega
 have h63:¬ (9223372036854775807 < ((len:Int)+(n:Int))):=by omega
 have h48:¬ (281474976710656 < Builtin.nextslicecap (len+n) cap*i.bytes):=by omega
 have hf':=hf w.drew rfl
 have hold':=hold w.drew rfl
 have hroom:∀ n w,(askRoom n).run P w= .ok () w:=fun n w=>by unfold askRoom; split <;> rfl
 rcases hd with rfl | ⟨e,rfl⟩ <;>
  (simp [Builtin.append_,run_underlying ht,run_underlying hx,sizeOf,typeInfo,zeroValue,hi,hz,hlen,h1,h63,h48,Question.forced,hf',hold',newRow,grownCap,hroom]
   try (congr 2; apply Array.ext'; simp [List.append_assoc]))
structure Appends (P:Program) (sT xT ty elem:TypeId) (i:TypeInfo) (z:Value) (n:Nat) (m:List Value) (x':Value) (w:World):Prop where
 fits:∀ {a:Addr} {len cap:Nat} {w':World},len+n≤cap→(storeCells (a.add (len*i.size)) m 0).run P w= .ok () w'→
  (Builtin.append_ #[sT,xT] ty #[.slice (some a) len cap,x']).run P w= .ok (.slice (some a) (len+n) cap) w'
 nothing:n=0→∀ {a:Option Addr} {len cap:Nat},len≤cap→(Builtin.append_ #[sT,xT] ty #[.slice a len cap,x']).run P w= .ok (.slice a len cap) w
 out:∀ {a:Option Addr} {len cap:Nat} {old:List Value},(∀ w':World,w'.heap=w.heap→(Builtin.firstCells i.size len (.slice a len cap)).run P w'= .ok old.toArray w')→cap < len+n→
  Builtin.nextslicecap (len+n) cap*i.bytes≤281474976710656→(Builtin.append_ #[sT,xT] ty #[.slice a len cap,x']).run P w= .ok (.slice (some ⟨w.heap.size,0,none⟩) (len+n) (grownCap w (len+n) cap elem))
   (w.drew.alloc (.cells (old.toArray++m.toArray++Builtin.zeroCells z.cells (grownCap w (len+n) cap elem - (len+n))) elem (0,0)))
theorem zeroCells_reps (z:Value) (n:Nat):Builtin.zeroCells z.cells n=(reps z.cells.toList n).toArray:=reps_range z.cells n
theorem appends_zeros {k:IntKind} {z:Value} {w:World} (ht:P.underlying sT=some (.slice elem)) (hi:P.info? elem=some i) (hx:P.underlying xT=some (.int k)) (hz:i.zero=some z) (hzs:z.cells.size=i.size) (hs0:i.size≠0) (hbytes:i.bytes≠0)
  {k':IntKind} (hn:n < 9223372036854775808) (hnb:n*i.bytes≤281474976710656):Appends P sT xT ty elem i z n (reps z.cells.toList n) (.int k' (Int.ofNat n)) w:=by
 have hw:=wrap_i64 hn
 have hb:¬ ((n:Int)*(i.bytes:Int) > 2 ^ 48):=by
  rw [← Int.natCast_mul]
  generalize n*i.bytes=q at hnb ⊢
  omega
 have hb2:¬ ((281474976710656:Int) < (n:Int)*(i.bytes:Int)):=by
  rw [← Int.natCast_mul]
  generalize n*i.bytes=q at hnb ⊢
  omega
 have hn0:n*i.size=0↔n=0:=⟨fun h=>by rcases Nat.mul_eq_zero.1 h with h | h; exact h; exact absurd h hs0,fun h=>by rw [h,Nat.zero_mul]⟩
 have hw':IntKind.i64.wrap (n:Int)=(n:Int):=hw
 refine ⟨fun {a len cap w'} hfit hst=> ?_,fun h0 {a len cap} hfit=> ?_,fun {a len cap old} hold hno hcap=> ?_⟩
 ·by_cases h0:n=0
  ·subst h0
   have hst':w'=w:=by simpa [reps,storeCells] using hst.symm
   subst hst'
   simp [Builtin.append_,run_underlying ht,run_underlying hx,sizeOf,typeInfo,hi,asInt,asIntOf,storeCells,show len≤cap by omega,IntKind.wrap,IntKind.bits,IntKind.signed]
  ·have hn1:¬ (n*i.size=0):=fun h=>h0 (hn0.1 h)
   simp [Builtin.append_,run_underlying ht,run_underlying hx,sizeOf,typeInfo,zeroValue,hi,hz,asInt,asIntOf,hw',hb2,hfit,hn1,zeroCells_reps,hst,show ¬ ((n:Int) < 0) by omega]
 ·subst h0
  cases a <;> simp [Builtin.append_,run_underlying ht,run_underlying hx,sizeOf,typeInfo,hi,asInt,asIntOf,storeCells,hfit,IntKind.wrap,IntKind.bits,IntKind.signed]
 ·have h1:¬ len+n≤cap:=by omega
  have h2:len+n≤281474976710656:=by
   have k1:=le_nextslicecap hno
   have k2:Builtin.nextslicecap (len+n) cap*1≤Builtin.nextslicecap (len+n) cap*i.bytes:=Nat.mul_le_mul_left _ (by omega)
   omega
  have h63:¬ (9223372036854775807 < ((len:Int)+(n:Int))):=by omega
  have h48:¬ (281474976710656 < Builtin.nextslicecap (len+n) cap*i.bytes):=by omega
  have hold':=hold w.drew rfl
  have hroom:∀ n w,(askRoom n).run P w= .ok () w:=fun n w=>by unfold askRoom; split <;> rfl
  by_cases h0:n=0
  ·subst h0
   simp [Builtin.append_,run_underlying ht,run_underlying hx,sizeOf,typeInfo,zeroValue,hi,hz,asInt,asIntOf,IntKind.wrap,IntKind.bits,IntKind.signed,show ¬ len≤cap by omega,Question.forced,hold',newRow,grownCap,hroom,reps,show ¬ (9223372036854775807 < (len:Int)) by omega,show ¬ (281474976710656 < Builtin.nextslicecap len cap*i.bytes) by simpa using h48]
  ·have hn1:¬ (n*i.size=0):=fun h=>h0 (hn0.1 h)
   simp [Builtin.append_,run_underlying ht,run_underlying hx,sizeOf,typeInfo,zeroValue,hi,hz,asInt,asIntOf,hw',hb2,h1,h63,h48,hn1,Question.forced,hold',newRow,grownCap,hroom,zeroCells_reps,show ¬ ((n:Int) < 0) by omega]
theorem appends_src {z:Value} {w:World} (ht:P.underlying sT=some (.slice elem)) (hi:P.info? elem=some i) (hx:P.underlying xT=some d) (hd:SrcT d) (hz:i.zero=some z) (hbytes:i.bytes≠0)
  (hlen:∀ w,(Builtin.lenOf x').run P w= .ok n w) (hf:∀ w':World,w'.heap=w.heap→(Builtin.firstCells i.size n x').run P w'= .ok m.toArray w') (hml:m.length=n*i.size):Appends P sT xT ty elem i z n m x' w:=
 ⟨fun hfit hst=>run_append_in ht hi hx hd hlen (hf w rfl) hfit hst,
  fun h0 {a len cap} hfit=>by
   subst h0
   have hm0:m=[]:=List.eq_nil_of_length_eq_zero (by simpa using hml)
   subst hm0
   exact run_append_nothing ht hi hx hd hlen (hf w rfl) hfit,
  fun hold hno hcap=>run_append_out ht hi hx hd hz hbytes hlen hf hold hno hcap⟩
end
theorem zeroFits_spec {i:TypeInfo} (h:¬ zeroFits i=false):∃ z,i.zero=some z∧z.cells.size=i.size:=by
 unfold zeroFits at h
 cases hz:i.zero with
 | none=>simp [hz] at h
 | some z=>
  simp only [hz] at h
  refine ⟨z,rfl,?_⟩
  cases hb:Nat.beq z.cells.size i.size with
  | true=>exact Nat.eq_of_beq_eq_true hb
  | false=>simp [hb] at h
theorem LRel.append {a b c d:List Value}:LRel G N φ a b→LRel G N φ c d→LRel G N φ (a++c) (b++d):=by
 induction a generalizing b with
 | nil=>cases b with
  | nil=>exact fun _ h=>h
  | cons=>exact fun h=>h.elim
 | cons x a ih=>cases b with
  | nil=>exact fun h=>h.elim
  | cons y b=>exact fun h k=>⟨h.1,ih h.2 k⟩
theorem LRel.one:∀ {l m:List Value},LRel G N φ l m→oneL l=true→∀ v ∈ m,v.oneCell'=true
 | [],[],_,_=>fun v h=>by simp at h
 | v::l,u::m,h,h1=>by
  simp only [oneL,Bool.and_eq_true] at h1
  intro x hx
  rcases List.mem_cons.1 hx with rfl | hx
  ·exact h.1.one h1.1
  ·exact LRel.one h.2 h1.2 x hx
 | [],_::_,h,_=>h.elim
 | _::_,[],h,_=>h.elim
def Goes (P:Program) (G N0:Nat) (g:Glob) (φ:Phi) (st:St) (w:World) (v:Value) (st':St) (s:Sem Value):Prop:=
 ∃ v' w' φ',s.run P w= .ok v' w'∧R G N0 g φ' st' w'∧Tr φ st w φ' st' w'∧VRel G st'.next φ' v v'
theorem alloc_drew_heap (w:World):w.drew.heap=w.heap:=rfl
theorem evalAppend_sound (hR:R G N0 g φ st w) {sT xT ty:TypeId} {s s' x x' v:Value} (h:evalAppend P G g st sT xT s x=some (v,st')) (hs:VRel G st.next φ s s') (hx:VRel G st.next φ x x') :
  Goes P G N0 g φ st w v st' (Builtin.append_ #[sT,xT] ty #[s',x']):=by
 unfold evalAppend at h
 split at h
 case h_2=>cases h
 rename_i elem hu
 split at h
 case h_2=>cases h
 rename_i i hi
 split at h
 case h_2=>cases h
 rename_i d hxd
 split at h
 ·cases h
 rename_i hok
 have hs0:i.size≠0:=fun h=>hok (.inl h)
 have hsz:i.size < openCap:=Nat.lt_of_not_le fun h=>hok (.inr (.inl h))
 have hb0:i.bytes≠0:=fun h=>hok (.inr (.inr (.inl h)))
 obtain ⟨z,hz,hzs⟩:=zeroFits_spec (fun h=>hok (.inr (.inr (.inr h))))
 split at h
 case h_2=>cases h
 rename_i n new hnew
 have hsrc:∃ m,LRel G st.next φ new m∧m.length=n*i.size∧Appends P sT xT ty elem i z n m x' w:=by
  unfold appSrc at hnew
  split at hnew
  ·obtain ⟨m,hm,hml,hlen,hcells⟩:=srcCells_sound (P:=P) hR hnew hx
   exact ⟨m,hm,hml,appends_src hu hi hxd (.inl rfl) hz hb0 hlen hcells hml⟩
  ·rename_i e
   obtain ⟨m,hm,hml,hlen,hcells⟩:=srcCells_sound (P:=P) hR hnew hx
   exact ⟨m,hm,hml,appends_src hu hi hxd (.inr ⟨e,rfl⟩) hz hb0 hlen hcells hml⟩
  ·split at hnew
   case h_2=>cases hnew
   rename_i k' n'
   split at hnew
   case h_2=>cases hnew
   rename_i z' hz'
   rw [hz] at hz'; cases hz'
   split at hnew
   case isFalse=>cases hnew
   rename_i hc
   cases hnew
   obtain rfl:=hx.int_inv
   refine ⟨reps z.cells.toList n,LRel.refl_flat (reps_flat (by have:=flat_cells hc.2.2; rwa [flatA_eq] at this) n),by rw [reps_length]; simp [hzs],?_⟩
   exact appends_zeros hu hi hxd hz hzs hs0 hb0 hc.1 hc.2.1
  ·cases hnew
 obtain ⟨m,hm,hml,hA⟩:=hsrc
 split at h
 ·cases h
 rename_i hone
 have hone':oneL new=true:=by simpa using hone
 have hsizes:∀ (old:List Value) (len cap:Nat),old.length=len*i.size→(old.toArray++m.toArray++Builtin.zeroCells z.cells (grownCap w (len+n) cap elem - (len+n)):Array Value).size=grownCap w (len+n) cap elem*i.size:=by
  intro old len cap ho
  have hge:=grownCap_ge w (len+n) cap elem
  simp only [Array.size_append,List.size_toArray,size_zeroCells,hzs,ho,hml]
  rw [← Nat.add_mul,← Nat.add_mul]
  congr 1; omega
 have hpre:∀ (old:List Value) (cap len:Nat) (j:Nat) (u:Value),(old++m)[j]?=some u→(old.toArray++m.toArray++Builtin.zeroCells z.cells (grownCap w (len+n) cap elem - (len+n)):Array Value)[j]?=some u:=by
  intro old cap len j u hj
  have hlt:j < (old++m).length:=by
   rcases Nat.lt_or_ge j (old++m).length with h | h
   ·exact h
   ·rw [List.getElem?_eq_none h] at hj; cases hj
  rw [Array.getElem?_append_left (by simpa using hlt)]
  simpa using hj
 split at h
 ·
  rename_i len cap
  obtain rfl:s'= .slice none len cap:=hs.flat_eq rfl
  split at h
  case isFalse=>cases h
  rename_i h0
  obtain ⟨rfl,rfl⟩:=h0
  split at h
  ·rename_i hn
   cases h
   subst hn
   have hm0:m=[]:=List.eq_nil_of_length_eq_zero (by simpa using hml)
   subst hm0
   exact ⟨_,w,φ,hA.nothing rfl (Nat.le_refl 0),hR,Tr.refl _ _ _,.flat rfl⟩
  ·rename_i hn
   split at h
   case isFalse=>cases h
   rename_i hcap
   cases h
   have hrun:=hA.out (a:=none) (len:=0) (cap:=0) (old:=[]) (fun w' _=>rfl) (by omega) (by simpa [evalAppend.nextcap] using hcap)
   have hR':=hR.drew (w.drawn+1)
   obtain ⟨φ',k1,k2,k3⟩:=R.newGrown (e:=elem) (a:=([]:List Value).toArray++m.toArray++Builtin.zeroCells z.cells (grownCap w (0+n) 0 elem - (0+n))) (fz:=(0,0)) hR' hm
    (fun j u hj=>hpre [] 0 0 j u (by simpa using hj)) (.inl ⟨rfl,rfl⟩)
   refine ⟨_,_,φ',hrun,k1,(Tr.drew φ st w _).trans k2,?_⟩
   rw [Nat.zero_add]
   have hconc:(⟨w.heap.size,0,none⟩:Addr)=φ'.at st.next 0:=by rw [Phi.at,k3]
   rw [hconc]
   refine .grown hR.base (Nat.lt_succ_self _) (by simpa using grownCap_ge w (0+n) 0 elem) (by simpa using grownCap_ge w (0+n) 0 elem) hsz ?_
   rw [k3,hsizes [] 0 0 (by simp)]
   simp
 ·rename_i b o len cap
  obtain ⟨hg,hbN,a',cap',rfl,hcase⟩:=hs.slice_inv
  split at h
  ·
   rename_i hc
   have hcase':cap'=cap∧a'=φ.at b o:=by
    rcases hcase with ⟨_,h1,h2⟩ | ⟨h1,_⟩ | ⟨h1,_⟩
    ·exact ⟨h1,h2⟩
    ·omega
    ·omega
   obtain ⟨rfl,rfl⟩:=hcase'
   split at h
   ·rename_i hfit
    split at h
    case h_2=>cases h
    rename_i st₁ hst
    cases h
    obtain ⟨w',k1,k2,k3,k4⟩:=stN_sound P new m (o+len*i.size) 0 st st' w hR hst hm
    have hrun:=hA.fits (a:=φ.at b o) (len:=len) (cap:=cap') hfit (w':=w') (by rw [Phi.at_conc hg,Phi.conc_add]; exact k1)
    exact ⟨_,w',φ,hrun,k2,k3,by rw [k4]; exact .slice hg hbN hc⟩
   ·rename_i hfit
    split at h
    case isFalse=>cases h
    rename_i hcap
    split at h
    case h_2=>cases h
    rename_i old hold
    split at h
    case isFalse=>cases h
    cases h
    obtain ⟨mo,q1,q2,q3⟩:=ldN_sound hR _ _ _ hold
    have hold':∀ w':World,w'.heap=w.heap→(Builtin.firstCells i.size len (.slice (some (φ.at b o)) len cap')).run P w'= .ok mo.toArray w':=fun w' hw'=>by
     show (loadCells (φ.at b o) (len*i.size)).run P w'=_
     rw [← q2,Phi.at_conc hg]
     exact run_loadCells_list w' _ _ fun j u hj=>by have:=q3 j u hj; simpa [World.cell?,hw'] using this
    have hrun:=hA.out (a:=some (φ.at b o)) (len:=len) (cap:=cap') (old:=mo) hold' (by omega) (by simpa [evalAppend.nextcap] using hcap)
    have hR':=hR.drew (w.drawn+1)
    obtain ⟨φ',k1,k2,k3⟩:=R.newGrown (e:=elem) (a:=mo.toArray++m.toArray++Builtin.zeroCells z.cells (grownCap w (len+n) cap' elem - (len+n))) (fz:=(0,0)) hR' (q1.append hm)
     (fun j u hj=>hpre mo cap' len j u hj) (.inl ⟨rfl,rfl⟩)
    refine ⟨_,_,φ',hrun,k1,(Tr.drew φ st w _).trans k2,?_⟩
    have hconc:(⟨w.heap.size,0,none⟩:Addr)=φ'.at st.next 0:=by rw [Phi.at,k3]
    rw [hconc]
    refine .grown hR.base (Nat.lt_succ_self _) (grownCap_ge w (len+n) cap' elem) (grownCap_ge w (len+n) cap' elem) hsz ?_
    rw [k3,hsizes mo len cap' q2]
    simp
  ·split at h
   case isFalse=>cases h
   rename_i hnc hc
   have hlc:len≤cap':=by
    rcases hcase with ⟨h1,_,_⟩ | ⟨_,h2,_⟩ | ⟨_,_,h2,h3⟩
    ·omega
    ·exact h2
    ·omega
   have hkc:openK cap≤cap':=by
    rcases hcase with ⟨h1,_,_⟩ | ⟨_,_,h2,_⟩ | ⟨_,h2,_,h3⟩
    ·omega
    ·exact h2
    ·omega
   split at h
   ·rename_i hn
    cases h
    subst hn
    have hm0:m=[]:=List.eq_nil_of_length_eq_zero (by simpa using hml)
    subst hm0
    exact ⟨_,w,φ,hA.nothing rfl hlc,hR,Tr.refl _ _ _,hs⟩
   ·rename_i hn
    split at h
    ·rename_i hfit
     split at h
     case h_2=>cases h
     rename_i st₁ hst
     cases h
     have ha:a'=φ.at b o:=by
      rcases hcase with ⟨h1,_,_⟩ | ⟨_,_,_,_,h4⟩ | ⟨_,h2,_,_⟩
      ·omega
      ·exact h4
      ·omega
     subst ha
     obtain ⟨w',k1,k2,k3,k4⟩:=stN_sound P new m (o+len*i.size) 0 st st' w hR hst hm
     have hrun:=hA.fits (a:=φ.at b o) (len:=len) (cap:=cap') (by omega) (w':=w') (by rw [Phi.at_conc hg,Phi.conc_add]; exact k1)
     refine ⟨_,w',φ,hrun,k2,k3,?_⟩
     rw [k4]
     rcases hcase with ⟨h1,_,_⟩ | ⟨hge,_,_,h3,_⟩ | ⟨_,h2,_,_⟩
     ·omega
     ·have he:=openOf_eq hge
      rw [← he]
      exact .grown hg hbN (by omega) hkc (openE_lt cap) h3
     ·omega
    rename_i hnk
    split at h
    case isFalse=>cases h
    rename_i hcap
    split at h
    case h_2=>cases h
    rename_i cb k e r hget
    split at h
    case h_2=>cases h
    rename_i f hfam
    split at h
    case isFalse=>cases h
    rename_i hcond
    obtain ⟨htip,hlow,hend,rfl⟩:=hcond
    split at h
    case h_2=>cases h
    rename_i old hold
    cases h
    obtain ⟨mo,q1,q2,q3⟩:=ldN_sound hR _ _ _ hold
    obtain ⟨j1,j2,j3,j4,arr,fz,f0,ha0,hfz0,hsz0,hle0,hfam0,htip0,hro0,hcs0⟩:=hR.obj b _ hget
    by_cases hfit:len+n≤cap'
    ·
     have hcase':a'=φ.at b o∧(φ b).shift+o+cap'*i.size≤(φ b).total:=by
      rcases hcase with ⟨h1,_,_⟩ | ⟨_,_,_,h3,h4⟩ | ⟨_,_,h2,h3⟩
      ·omega
      ·rw [hc] at h3; exact ⟨h4,h3⟩
      ·omega
     obtain ⟨rfl,hroom⟩:=hcase'
     have hneed:(len+n)*i.size≤cap'*i.size:=Nat.mul_le_mul_right _ hfit
     rw [Nat.add_mul] at hneed
     obtain ⟨w',a'',k1,k2,k3,k4,k5,k6,k7,k8,k9,k10⟩:=run_store_row P (B:=(φ b).block) (off:=(φ b).shift+k) m 0 w arr ha0 (by rw [hfam] at hfam0; cases hfam0; exact hfz0 hlow) (by rw [hml]; omega) (hm.one hone')
     have hrun:=hA.fits (a:=φ.at b o) (len:=len) (cap:=cap') hfit (w':=w') (by
      have e1:(φ.at b o).add (len*i.size)=⟨(φ b).block,(φ b).shift+k,none⟩:=by
       rw [Phi.at_conc hg,Phi.conc_add,← Phi.at_conc hg,Phi.at,hend]
      rw [e1]; exact k1)
     have hlm:(mo++m).length=len*i.size+n*i.size:=by simp [q2,hml]
     have hext:=hR.extend (l:=old++new) (m:=mo++m) (o:=o) hget hfam htip hlow ha0 k2 k3 (fun q hq=>k5 q (by omega)) k6 k7 k8 k9 k10 (q1.append hm) (fun j u hj=>by
       rw [List.getElem?_append] at hj
       split at hj
       ·rename_i hjl
        have:=q3 j u hj
        rw [Phi.conc_add,← Phi.at_conc hg,Phi.at,cell_of_block ha0] at this
        rw [k5 _ (by omega)]
        rw [← this]; congr 1; omega
       ·rename_i hjl
        have:=k4 (j - mo.length) u hj
        rw [← this]; congr 1; omega)
      (by rw [(q1.append hm).get.1,hlm]; omega) (by rw [(q1.append hm).get.1,hlm]; omega)
     refine ⟨_,w',_,hrun,hext.1,hext.2,?_⟩
     have hat:φ.at b o=(φ.upd st.next ⟨(φ b).block,(φ b).shift+o,(φ b).total⟩).at st.next 0:=by
      rw [Phi.at,Phi.at,Phi.upd_at]; rfl
     rw [hat]
     refine .grown hR.base (Nat.lt_succ_self _) hfit hfit hsz ?_
     rw [Phi.upd_at]
     simp only [Nat.add_zero]
     exact hroom
    ·
     have hcap2:Builtin.nextslicecap (len+n) cap'*i.bytes≤281474976710656:=by
      have h1:=nextslicecap_le (need:=len+n) (old:=cap') (by omega)
      have h2:Builtin.nextslicecap (len+n) cap'*i.bytes≤(2*(len+n)+1000)*i.bytes:=Nat.mul_le_mul_right _ (by omega)
      omega
     have hold':∀ w':World,w'.heap=w.heap→(Builtin.firstCells i.size len (.slice (some a') len cap')).run P w'= .ok mo.toArray w':=fun w' hw'=>by
      show (loadCells a' (len*i.size)).run P w'=_
      have hcl:∀ (j:Nat) (u:Value),mo[j]?=some u→w'.cell? ((φ.conc G b o).add j)=some u:=fun j u hj=>by have:=q3 j u hj; simpa [World.cell?,hw'] using this
      rcases hcase with ⟨h1,_,_⟩ | ⟨_,_,_,_,rfl⟩ | ⟨_,_,h2,_⟩
      ·omega
      ·rw [← q2,Phi.at_conc hg]; exact run_loadCells_list w' _ _ hcl
      ·have:mo=[]:=List.eq_nil_of_length_eq_zero (by rw [q2,h2]; simp)
       subst this; subst h2
       simp [loadCells,loadCellsFrom]
     have hrun:=hA.out (a:=some a') (len:=len) (cap:=cap') (old:=mo) hold' (by omega) hcap2
     have hR':=hR.drew (w.drawn+1)
     obtain ⟨φ',k1,k2,k3⟩:=R.regrow (l:=old++new) (a:=mo.toArray++m.toArray++Builtin.zeroCells z.cells (grownCap w (len+n) cap' e - (len+n))) hR' hget hfam htip (q1.append hm)
      (fun j u hj=>hpre mo cap' len j u hj)
     refine ⟨_,_,φ',hrun,k1,(Tr.drew φ st w _).trans k2,?_⟩
     have hconc:(⟨w.heap.size,0,none⟩:Addr)=φ'.at st.next 0:=by rw [Phi.at,k3]
     rw [hconc]
     refine .grown hR.base (Nat.lt_succ_self _) (grownCap_ge w (len+n) cap' e) (grownCap_ge w (len+n) cap' e) hsz ?_
     rw [k3,hsizes mo len cap' q2]
     simp
 ·cases h
end Go.Ev
namespace Go.Ev
variable {P:Program} {G N0 N:Nat} {g:Glob} {φ:Phi} {st st':St} {w:World}
theorem run_getMap {w:World} {r:Nat} {es:Array MapEntry} {clock:Nat} (hb:w.heap[r]?=some (.map es clock)):(getObj r).run P w= .ok (.map es clock) w:=by
 simp [getObj,Sem.run,hb]
theorem run_setMap {w:World} {r:Nat} {es:Array MapEntry} {clock:Nat} (o:Obj) (hb:w.heap[r]?=some (.map es clock)):(setObj r o).run P w= .ok () { w with heap:=w.heap.setIfInBounds r o }:=by
 simp [setObj,Sem.run,hb]
theorem VRel.map_inv {r:Nat} {v':Value} (h:VRel G N φ (.map (some r)) v'):v'= .map (some (φ r).block):=by
 cases h with
 | flat hf=>simp [Go.Ev.flat] at hf
 | map _ _=>rfl
def FR (l2:List MapEntry) (i:Nat):Option (Nat × Value)→Option (Nat × Value)→Prop
 | none,none=>True
 | some (j,_),some (j',v')=>j=j'∧i≤j∧∃ e,l2[j - i]?=some e∧v'=e.val
 | _,_=>False
theorem FR.cons {l2:List MapEntry} {e:MapEntry} {i:Nat} {r1 r2:Option (Nat × Value)} (h:FR l2 (i+1) r1 r2):FR (e::l2) i r1 r2:=by
 cases r1 with
 | none=>cases r2 with
  | none=>trivial
  | some _=>exact h.elim
 | some x=>cases r2 with
  | none=>exact h.elim
  | some y=>
   obtain ⟨h1,h2,e',h3,h4⟩:=h
   refine ⟨h1,by omega,e',?_,h4⟩
   have:x.1 - i=(x.1 - (i+1))+1:=by have:i+1≤x.1:=h2; omega
   show (e::l2)[x.1 - i]?=some e'
   rw [this]; simpa using h3
theorem findNow_keys {kind:TypeDesc} {k:Value}:∀ (l1 l2:List MapEntry) (i:Nat),l1.map (·.key)=l2.map (·.key)→
  (Instr.findNow kind k l1 i=none↔Instr.findNow kind k l2 i=none)∧∀ r1 r2,Instr.findNow kind k l1 i=some r1→Instr.findNow kind k l2 i=some r2→FR l2 i r1 r2
 | [],[],i,_=>by
  refine ⟨Iff.rfl,fun r1 r2 h1 h2=> ?_⟩
  simp only [Instr.findNow,Option.some.injEq] at h1 h2
  subst h1; subst h2; trivial
 | [],_::_,_,h=>by simp at h
 | _::_,[],_,h=>by simp at h
 | e1::l1,e2::l2,i,h=>by
  simp only [List.map_cons,List.cons.injEq] at h
  obtain ⟨hk,ht⟩:=h
  have ih:=findNow_keys (kind:=kind) (k:=k) l1 l2 (i+1) ht
  unfold Instr.findNow
  rw [hk]
  cases hs:Instr.sameNow kind k e2.key with
  | none=>exact ⟨Iff.rfl,fun r1 r2 h1=>by cases h1⟩
  | some b=>
   cases b with
   | true=>
    refine ⟨by simp,fun r1 r2 h1 h2=> ?_⟩
    simp only [Option.some.injEq] at h1 h2
    subst h1; subst h2
    exact ⟨rfl,Nat.le_refl _,e2,by simp,rfl⟩
   | false=>exact ⟨ih.1,fun r1 r2 h1 h2=>(ih.2 r1 r2 h1 h2).cons⟩
theorem findAsking_keys {kt:TypeId} {k:Value}:∀ (l1 l2:List MapEntry) (i:Nat) (w w1:World) (r1:Option (Nat × Value)),l1.map (·.key)=l2.map (·.key)→
  (Instr.findAsking kt k l1 i).run P w= .ok r1 w1→∃ r2,(Instr.findAsking kt k l2 i).run P w= .ok r2 w1∧FR l2 i r1 r2
 | [],[],i,w,w1,r1,_,h=>by
  refine ⟨r1,h,?_⟩
  have h':(Result.ok none w:Result (Option (Nat × Value)))= .ok r1 w1:=h
  cases h'; trivial
 | [],_::_,_,_,_,_,h,_=>by simp at h
 | _::_,[],_,_,_,_,h,_=>by simp at h
 | e1::l1,e2::l2,i,w,w1,r1,hk,h=>by
  simp only [List.map_cons,List.cons.injEq] at hk
  obtain ⟨hk,ht⟩:=hk
  unfold Instr.findAsking at h ⊢
  simp only [Sem.run_bind] at h ⊢
  rw [hk] at h
  cases he:(Op.equal kt k e2.key).run P w with
  | ok b w2=>
   rw [he] at h
   simp only [Result.andThen_ok] at h ⊢
   cases b with
   | true=>
    simp only [if_true,Sem.run_pure] at h ⊢
    cases h
    exact ⟨_,rfl,rfl,Nat.le_refl _,e2,by simp,rfl⟩
   | false=>
    simp only [Bool.false_eq_true,if_false] at h ⊢
    obtain ⟨r2,h1,h2⟩:=findAsking_keys l1 l2 (i+1) w2 w1 r1 ht h
    exact ⟨r2,h1,h2.cons⟩
  | halt x w2=>rw [he] at h; cases h
theorem findKey_keys {kt:TypeId} {k:Value} {l1 l2:List MapEntry} {w w1:World} {r1:Option (Nat × Value)} (hk:l1.map (·.key)=l2.map (·.key))
  (h:(Instr.findKey kt k l1).run P w= .ok r1 w1):∃ r2,(Instr.findKey kt k l2).run P w= .ok r2 w1∧FR l2 0 r1 r2:=by
 unfold Instr.findKey at h ⊢
 simp only [Sem.run_bind] at h ⊢
 cases hu:(underlying kt).run P w with
 | ok d w2=>
  rw [hu] at h
  simp only [Result.andThen_ok] at h ⊢
  have hn:=findNow_keys (kind:=d) (k:=k) l1 l2 0 hk
  cases h1:Instr.findNow d k l1 0 with
  | none=>
   rw [h1] at h
   rw [hn.1.1 h1]
   exact findAsking_keys l1 l2 0 w2 w1 r1 hk h
  | some x=>
   rw [h1] at h
   cases h2:Instr.findNow d k l2 0 with
   | none=>rw [hn.1.2 h2] at h1; cases h1
   | some y=>
    simp only [Sem.run_pure] at h ⊢
    cases h
    exact ⟨y,rfl,hn.2 _ _ h1 h2⟩
 | halt x w2=>rw [hu] at h; cases h
theorem keysOf_keys:∀ (l:List MapEntry) (i:Nat),(keysOf l i).map (·.key)=l.map (·.key)
 | [],_=>rfl
 | e::l,i=>by simp [keysOf,keysOf_keys l]
theorem flatKeys_all:∀ (l:List MapEntry),flatKeys l=true→∀ (i:Nat) (e:MapEntry),l[i]?=some e→flat e.key=true
 | [],_,i,e,h=>by simp at h
 | x::l,hf,i,e,h=>by
  simp only [flatKeys,Bool.and_eq_true] at hf
  cases i with
  | zero=>simp at h; subst h; exact hf.1
  | succ i=>exact flatKeys_all l hf.2 i e (by simpa using h)
theorem evalFind_sound {kt:TypeId} {k:Value} {fresh:Bool} {es:List MapEntry} {a:Array MapEntry} {oi:Option Nat} (h:evalFind P kt k fresh es=some oi) (hsz:a.size=es.length)
  (hrel:∀ (i:Nat) (e e':MapEntry),es[i]?=some e→a[i]?=some e'→EntryRel G N φ e e') :
  flat k=true∧(∀ w,(Instr.checkKey fresh 10000 kt k).run P w= .ok () w)∧(∀ (i:Nat) (e e':MapEntry),es[i]?=some e→a[i]?=some e'→e'.key=e.key)∧
   match oi with
   | some i=>∃ e',a[i]?=some e'∧∀ w,(Instr.findKey kt k a.toList).run P w= .ok (some (i,e'.val)) w
   | none=>∀ w,(Instr.findKey kt k a.toList).run P w= .ok none w:=by
 unfold evalFind at h
 split at h
 ·rename_i hfl
  simp only [Bool.and_eq_true] at hfl
  have hkeys:∀ (i:Nat) (e e':MapEntry),es[i]?=some e→a[i]?=some e'→e'.key=e.key:=fun i e e' h1 h2=>(hrel i e e' h1 h2).1.flat_eq (flatKeys_all es hfl.2 i e h1)
  have hmap:(keysOf es 0).map (·.key)=a.toList.map (·.key):=by
   rw [keysOf_keys]
   apply List.ext_getElem?
   intro i
   have ht:a.toList[i]?=a[i]?:=Array.getElem?_toList
   rw [List.getElem?_map,List.getElem?_map,ht]
   by_cases hi:i < es.length
   ·have h1:=List.getElem?_eq_getElem hi
    have h2:=Array.getElem?_eq_getElem (hsz▸hi:i < a.size)
    rw [h1,h2]
    exact congrArg some (hkeys i _ _ h1 h2).symm
   ·rw [List.getElem?_eq_none (by omega),Array.getElem?_eq_none (by omega)]
  split at h
  ·rename_i hck
   split at h
   ·rename_i i v hp
    cases h
    refine ⟨hfl.1,fun w=>peek_run hck w,hkeys,?_⟩
    obtain ⟨r2,h1,h2⟩:=findKey_keys hmap (peek_run hp default)
    cases r2 with
    | none=>exact h2.elim
    | some y=>
     obtain ⟨q1,_,e',q3,q4⟩:=h2
     refine ⟨e',by simpa using q3,fun w=> ?_⟩
     obtain ⟨r3,h3,h4⟩:=findKey_keys hmap (peek_run hp w)
     cases r3 with
     | none=>exact h4.elim
     | some z=>
      obtain ⟨p1,_,e3,p3,p4⟩:=h4
      have:e3=e':=by rw [q3] at p3; exact (Option.some.inj p3).symm
      subst this
      rw [h3]
      have:z=(i,e3.val):=by
       obtain ⟨z1,z2⟩:=z
       simp only at p1 p4
       subst p1; subst p4; rfl
      rw [this]
   ·rename_i hp
    cases h
    refine ⟨hfl.1,fun w=>peek_run hck w,hkeys,fun w=> ?_⟩
    obtain ⟨r3,h3,h4⟩:=findKey_keys hmap (peek_run hp w)
    cases r3 with
    | none=>exact h3
    | some z=>exact h4.elim
   ·cases h
  ·cases h
 ·cases h
theorem isEmpty_of {es:List MapEntry} {a:Array MapEntry} (h:a.size=es.length):a.isEmpty=es.isEmpty:=by
 cases es with
 | nil=>simp at h; simp [h]
 | cons e l=>simp at h; simp [Array.isEmpty,h]
theorem evalLookup_sound (hR:R G N0 g φ st w) {t:TypeId} {x x' ix ix' v:Value} {ok:Bool} (h:evalLookup P st t x ix ok=some v) (hx:VRel G st.next φ x x') (hix:VRel G st.next φ ix ix') :
  ∃ v',VRel G st.next φ v v'∧(Instr.lookup t x' ix' ok).run P w= .ok v' w:=by
 unfold evalLookup at h
 split at h
 ·rename_i kt et ht
  split at h
  ·rename_i r
   split at h
   ·rename_i es clock hobj
    obtain rfl:=hx.map_inv
    obtain ⟨_,_,_,_,a,ha,hsz,hrel⟩:=hR.obj r _ hobj
    have hg:=run_getMap (P:=P) ha
    split at h
    ·rename_i i hf
     obtain ⟨hfk,hck,hkeys,e',ha',hrun⟩:=evalFind_sound hf hsz hrel
     split at h
     ·rename_i e he
      cases h
      obtain rfl:=hix.flat_eq hfk
      refine ⟨_,packOk_rel (hrel i e e' he ha').2.1,?_⟩
      unfold Instr.lookup
      simp only [Sem.run_bind,run_underlying ht,hg,Result.andThen_ok,Sem.run_pure,isEmpty_of hsz,hck,hrun]
      rfl
     ·cases h
    ·rename_i hf
     obtain ⟨hfk,hck,hkeys,hrun⟩:=evalFind_sound hf hsz hrel
     split at h
     ·rename_i z hz
      split at h
      ·rename_i hfz
       cases h
       obtain rfl:=hix.flat_eq hfk
       refine ⟨_,packOk_rel (.flat hfz),?_⟩
       unfold Instr.lookup
       simp only [Sem.run_bind,run_underlying ht,hg,Result.andThen_ok,Sem.run_pure,isEmpty_of hsz,hck,hrun,peek_run hz]
       rfl
      ·cases h
     ·cases h
    ·cases h
   ·cases h
  ·cases h
 ·cases h
theorem R.updMap (hR:R G N0 g φ st w) {r:Nat} {es es':List MapEntry} {clock clock':Nat} {a a':Array MapEntry} (hget:st.heap.get r=some (.map es clock)) (ha:w.heap[(φ r).block]?=some (.map a clock))
  (hsz:a'.size=es'.length) (hrel:∀ (i:Nat) (e e':MapEntry),es'[i]?=some e→a'[i]?=some e'→EntryRel G st.next φ e e') :
  R G N0 g φ ⟨st.heap.set r (.map es' clock'),st.fams,st.next⟩ { w with heap:=w.heap.setIfInBounds (φ r).block (.map a' clock') }∧
   Tr φ st w φ ⟨st.heap.set r (.map es' clock'),st.fams,st.next⟩ { w with heap:=w.heap.setIfInBounds (φ r).block (.map a' clock') }:=by
 have hlt:(φ r).block < w.heap.size:=(Array.getElem?_eq_some_iff.1 ha).1
 refine hR.upd (o':= .map es' clock') (fams':=st.fams) hget rfl rfl (fun k hk=> ?_) (by simp) rfl rfl rfl (fun _ _=>rfl) (fun r f' hf=>⟨f',hf,rfl⟩) ?_ (fun id oi r hr=>by simp [AObj.root?] at hr)
 ·show (w.heap.setIfInBounds (φ r).block _)[k]?=_
  rw [Array.getElem?_setIfInBounds_ne (fun h=>hk h.symm)]
 ·refine ⟨a',?_,hsz,hrel⟩
  show (w.heap.setIfInBounds (φ r).block _)[(φ r).block]?=_
  simp [hlt]
theorem evalMapSet_sound (hR:R G N0 g φ st w) {t:TypeId} {x x' k k' v v':Value} (h:evalMapSet P st t x k v=some st') (hx:VRel G st.next φ x x') (hk:VRel G st.next φ k k') (hv:VRel G st.next φ v v') :
  ∃ w',(Instr.mapUpdate t x' k' v').run P w= .ok () w'∧R G N0 g φ st' w'∧Tr φ st w φ st' w':=by
 unfold evalMapSet at h
 split at h
 ·rename_i kt et ht
  split at h
  ·rename_i r
   split at h
   ·rename_i es clock hobj
    obtain rfl:=hx.map_inv
    obtain ⟨_,_,_,_,a,ha,hsz,hrel⟩:=hR.obj r _ hobj
    have hg:=run_getMap (P:=P) ha
    split at h
    ·rename_i i hf
     obtain ⟨hfk,hck,hkeys,e',ha',hrun⟩:=evalFind_sound hf hsz hrel
     split at h
     ·rename_i e he
      split at h
      ·rename_i hsame
       cases h
       rw [hk.flat_eq hfk]
       have hke:=hkeys i e e' he ha'
       have hstay:(Instr.keyThatStays (((a[i]?).map (·.key)).getD k) k).run P w= .ok k w:=by
        rw [ha']
        unfold Instr.keyThatStays
        simp only [Option.map_some,Option.getD_some,hke,hsame,if_true,Sem.run_pure]
       have hup:=hR.updMap (clock':=clock) (es':=es.set i ⟨k,v,e.born⟩) (a':=a.modify i fun e=>{ e with key:=k,val:=v' }) hobj ha (by simp [hsz]) (fun j x y hj hy=>by
        rw [List.getElem?_set] at hj
        rw [Array.getElem?_modify] at hy
        by_cases hij:i=j
        ·subst hij
         rw [if_pos rfl] at hj hy
         have hil:i < es.length:=(List.getElem?_eq_some_iff.1 he).1
         rw [if_pos hil] at hj
         rw [ha'] at hy
         cases hj; cases hy
         exact ⟨.flat hfk,hv,(hrel i e e' he ha').2.2⟩
        ·rw [if_neg hij] at hj hy
         exact hrel j x y hj hy)
       refine ⟨_,?_,hup.1,hup.2⟩
       unfold Instr.mapUpdate
       simp only [Sem.run_bind,run_underlying ht,hg,Result.andThen_ok,hck,hrun,hstay]
       exact run_setMap _ ha
      ·cases h
     ·cases h
    ·rename_i hf
     obtain ⟨hfk,hck,hkeys,hrun⟩:=evalFind_sound hf hsz hrel
     cases h
     rw [hk.flat_eq hfk]
     have hup:=hR.updMap (clock':=clock+1) (es':=es++[⟨k,v,clock⟩]) (a':=a.push ⟨k,v',clock⟩) hobj ha (by simp [hsz]) (fun j x y hj hy=>by
      rw [List.getElem?_append] at hj
      rw [Array.getElem?_push] at hy
      by_cases hjl:j < es.length
      ·rw [if_pos hjl] at hj
       rw [if_neg (by omega)] at hy
       exact hrel j x y hj hy
      ·rw [if_neg hjl] at hj
       by_cases hje:j=a.size
       ·rw [if_pos hje] at hy
        cases hy
        have:j - es.length=0:=by omega
        rw [this] at hj
        simp only [List.getElem?_cons_zero,Option.some.injEq] at hj
        subst hj
        exact ⟨.flat hfk,hv,rfl⟩
       ·rw [if_neg hje,Array.getElem?_eq_none (by omega)] at hy
        cases hy)
     refine ⟨_,?_,hup.1,hup.2⟩
     unfold Instr.mapUpdate
     simp only [Sem.run_bind,run_underlying ht,hg,Result.andThen_ok,hck,hrun]
     exact run_setMap _ ha
    ·cases h
   ·cases h
  ·cases h
 ·cases h
theorem run_getIter {w:World} {r pos:Nat} {b:ByteArray} (hb:w.heap[r]?=some (.stringIter b pos)):(getObj r).run P w= .ok (.stringIter b pos) w:=by
 simp [getObj,Sem.run,hb]
theorem run_setIter {w:World} {r pos:Nat} {b:ByteArray} (o':Obj) (hb:w.heap[r]?=some (.stringIter b pos)):(setObj r o').run P w= .ok () { w with heap:=w.heap.setIfInBounds r o' }:=by
 simp [setObj,Sem.run,hb]
theorem run_getWalk {w:World} {r since last:Nat} {m:Option Nat} {seen:Array Nat} (hb:w.heap[r]?=some (.mapIter m since seen last)):(getObj r).run P w= .ok (.mapIter m since seen last) w:=by
 simp [getObj,Sem.run,hb]
theorem run_setWalk {w:World} {r since last:Nat} {m:Option Nat} {seen:Array Nat} (o':Obj) (hb:w.heap[r]?=some (.mapIter m since seen last)):(setObj r o').run P w= .ok () { w with heap:=w.heap.setIfInBounds r o' }:=by
 simp [setObj,Sem.run,hb]
theorem R.updObj (hR:R G N0 g φ st w) {r:Nat} {o o':AObj} {ob':Obj} (hget:st.heap.get r=some o) (h1:o.root?=none) (h2:o'.root?=none) (h3:o.known=0) (h4:o'.known=0)
  (hobj:ObjRel G φ ⟨st.heap.set r o',st.fams,st.next⟩ { w with heap:=w.heap.setIfInBounds (φ r).block ob' } r o') :
  R G N0 g φ ⟨st.heap.set r o',st.fams,st.next⟩ { w with heap:=w.heap.setIfInBounds (φ r).block ob' }∧Tr φ st w φ ⟨st.heap.set r o',st.fams,st.next⟩ { w with heap:=w.heap.setIfInBounds (φ r).block ob' }:=by
 refine hR.upd (o':=o') (fams':=st.fams) hget (by rw [h1,h2]) (by rw [h3,h4]) (fun k hk=> ?_) (by simp) rfl rfl rfl (fun _ _=>rfl) (fun r f' hf=>⟨f',hf,rfl⟩) hobj (fun id oi r hr=>by rw [h1] at hr; cases hr)
 show (w.heap.setIfInBounds (φ r).block _)[k]?=_
 rw [Array.getElem?_setIfInBounds_ne (fun h=>hk h.symm)]
theorem evalRange_sound (hR:R G N0 g φ st w) {t:TypeId} {x x' v:Value} (h:evalRange P st t x=some (v,st')) (hx:VRel G st.next φ x x'):Goes P G N0 g φ st w v st' (Instr.range t x'):=by
 unfold evalRange at h
 split at h
 ·rename_i ht
  split at h
  ·rename_i s
   cases h
   obtain rfl:x'= .string s:=hx.string_inv
   have hn:=hR.new (o:= .iter s 0) (ob:= .stringIter s 0) (l:=⟨w.heap.size,0,0⟩) (fams':=st.fams) rfl (fun _ f _ hf=>⟨f,hf,rfl,Nat.le_refl _⟩) (fun _ _ hf _=>hf)
    (fun φ' h1 h2=>⟨by rw [h1],by rw [h1,heap_alloc,if_pos rfl]⟩)
   have hv:VRel G (st.next+1) (φ.upd st.next ⟨w.heap.size,0,0⟩) (.pointer (some ⟨st.next,0,none⟩)) (.pointer (some ((φ.upd st.next ⟨w.heap.size,0,0⟩).at st.next 0))):= .ptr hR.base (Nat.lt_succ_self _)
   rw [Phi.at,Phi.upd_at] at hv
   refine ⟨_,_,_,?_,hn.1,hn.2,hv⟩
   unfold Instr.range
   simp only [Sem.run_bind,run_underlying ht,Result.andThen_ok,Sem.run_pure]
   rfl
  ·cases h
 ·rename_i kt et ht
  split at h
  ·rename_i m
   split at h
   ·rename_i es clock hobj
    cases h
    obtain rfl:=hx.map_inv
    obtain ⟨m1,m2,_,_,a,ha,_,_⟩:=hR.obj m _ hobj
    have hn:=hR.new (o:= .walk m clock [] clock) (ob:= .mapIter (some (φ m).block) clock #[] clock) (l:=⟨w.heap.size,0,0⟩) (fams':=st.fams) rfl (fun _ f _ hf=>⟨f,hf,rfl,Nat.le_refl _⟩) (fun _ _ hf _=>hf)
     (fun φ' h1 h2=>⟨by rw [h1],⟨m1,Nat.lt_succ_of_lt m2⟩,by rw [h1,heap_alloc,if_pos rfl,h2 m m2]⟩)
    have hv:VRel G (st.next+1) (φ.upd st.next ⟨w.heap.size,0,0⟩) (.pointer (some ⟨st.next,0,none⟩)) (.pointer (some ((φ.upd st.next ⟨w.heap.size,0,0⟩).at st.next 0))):= .ptr hR.base (Nat.lt_succ_self _)
    rw [Phi.at,Phi.upd_at] at hv
    refine ⟨_,_,_,?_,hn.1,hn.2,hv⟩
    unfold Instr.range
    simp only [Sem.run_bind,run_underlying ht,run_getMap ha,Result.andThen_ok,Sem.run_pure]
    rfl
   ·cases h
  ·cases h
 ·cases h
def ER (G N:Nat) (φ:Phi):List MapEntry→List MapEntry→Prop
 | [],[]=>True
 | e::l,e'::l'=>EntryRel G N φ e e'∧ER G N φ l l'
 | _,_=>False
theorem er_of:∀ (l l':List MapEntry),l'.length=l.length→(∀ (i:Nat) (e e':MapEntry),l[i]?=some e→l'[i]?=some e'→EntryRel G N φ e e')→ER G N φ l l'
 | [],[],_,_=>trivial
 | [],_::_,h,_=>by simp at h
 | _::_,[],h,_=>by simp at h
 | e::l,e'::l',h,hr=>⟨hr 0 e e' rfl rfl,er_of l l' (by simpa using h) fun i x x' h1 h2=>hr (i+1) x x' (by simpa using h1) (by simpa using h2)⟩
theorem er_filter (p:Nat→Bool):∀ {l l':List MapEntry},ER G N φ l l'→ER G N φ (l.filter fun e=>p e.born) (l'.filter fun e=>p e.born)
 | [],[],_=>trivial
 | e::l,e'::l',h=>by
  have ih:=er_filter p h.2
  have hb:e'.born=e.born:=h.1.2.2
  simp only [List.filter_cons,hb]
  split
  ·exact ⟨h.1,ih⟩
  ·exact ih
theorem er_all (p:Nat→Bool):∀ {l l':List MapEntry},ER G N φ l l'→(l'.all fun e=>p e.born)=l.all fun e=>p e.born
 | [],[],_=>rfl
 | e::l,e'::l',h=>by
  have hb:e'.born=e.born:=h.1.2.2
  simp only [List.all_cons,hb,er_all p h.2]
theorem er_empty:∀ {l l':List MapEntry},ER G N φ l l'→l'.isEmpty=l.isEmpty
 | [],[],_=>rfl
 | _::_,_::_,_=>rfl
theorem ptr_inv (hR:R G N0 g φ st w) {r:Nat} {o:AObj} {x':Value} (hobj:st.heap.get r=some o) (hs:(φ r).shift=0) (hx:VRel G st.next φ (.pointer (some ⟨r,0,none⟩)) x'):x'= .pointer (some ⟨(φ r).block,0,none⟩):=by
 cases hx with
 | flat hf=>simp [Go.Ev.flat] at hf
 | glob hb=>have:=(hR.obj r _ hobj).1; omega
 | ptr _ _=>rw [Phi.at,hs]
theorem forced_one:(Question.mapNext 1).forced=true:=rfl
theorem evalNext_sound (hR:R G N0 g φ st w) {x x' v:Value} {isString:Bool} {ty:TypeId} (h:evalNext st x isString=some (v,st')) (hx:VRel G st.next φ x x'):Goes P G N0 g φ st w v st' (Instr.next x' isString ty):=by
 unfold evalNext at h
 split at h
 ·rename_i r
  split at h
  ·rename_i s pos hobj
   obtain ⟨_,_,_,_,hsh,hb⟩:=hR.obj r _ hobj
   obtain rfl:=ptr_inv hR hobj hsh hx
   split at h
   ·rename_i hlt
    cases h
    have hup:=hR.updObj (o':= .iter s (pos+(Utf8.decode s pos).2)) (ob':= .stringIter s (pos+(Utf8.decode s pos).2)) hobj rfl rfl rfl rfl ⟨hsh,by
     show (w.heap.setIfInBounds (φ r).block _)[(φ r).block]?=_
     simp [(Array.getElem?_eq_some_iff.1 hb).1]⟩
    refine ⟨_,_,φ,?_,hup.1,hup.2,.flat rfl⟩
    unfold Instr.next
    simp only [Sem.run_bind,run_getIter hb,Result.andThen_ok,if_pos hlt,run_setIter _ hb,Sem.run_pure]
   ·rename_i hge
    cases h
    refine ⟨_,w,φ,?_,hR,Tr.refl _ _ _,.flat rfl⟩
    unfold Instr.next
    simp only [Sem.run_bind,run_getIter hb,Result.andThen_ok,if_neg hge,Sem.run_pure]
  ·rename_i m since seen last hobj
   split at h
   ·rename_i es clock hmap
    obtain ⟨_,_,_,_,hsh,⟨m1,m2⟩,hb⟩:=hR.obj r _ hobj
    obtain ⟨_,_,_,_,a,ha,hsz,hrel⟩:=hR.obj m _ hmap
    obtain rfl:=ptr_inv hR hobj hsh hx
    obtain ⟨l',rfl⟩:∃ l':List MapEntry,a=l'.toArray:=⟨a.toList,by simp⟩
    have her:ER G st.next φ es l':=er_of es l' (by simpa using hsz) (fun i e e' h1 h2=>hrel i e e' h1 (by simpa using h2))
    split at h
    ·cases h
    ·rename_i hno
     simp only [Bool.or_eq_true,not_or,Bool.not_eq_true] at hno
     have hgone:(!seen.toArray.isEmpty && !l'.toArray.isEmpty && l'.toArray.all (fun e=>decide (e.born≥last)))=false:=by
      rw [← hno.1]
      have e1:=er_empty her
      have e2:=er_all (fun b=>decide (b≥last)) her
      simp only [List.isEmpty_toArray,List.all_toArray,e1,e2]
     have hfil:=er_filter (fun b=> !seen.contains b) her
     have hl:(l'.toArray.filter fun e=> !seen.toArray.contains e.born)=(l'.filter fun e=> !seen.contains e.born).toArray:=by simp
     have hnew:=List.any_eq_false.1 hno.2
     split at h
     ·rename_i hu
      cases h
      have hL:(l'.filter fun e=> !seen.contains e.born)=[]:=by
       unfold unseen at hu
       rw [hu] at hfil
       cases hc:(l'.filter fun e=> !seen.contains e.born) with
       | nil=>rfl
       | cons x y=>rw [hc] at hfil; exact hfil.elim
      refine ⟨_,w,φ,?_,hR,Tr.refl _ _ _,.flat rfl⟩
      unfold Instr.next
      simp only [Sem.run_bind,run_getWalk hb,run_getMap ha,Result.andThen_ok,hgone,Bool.false_eq_true,if_false,hl,hL]
      simp [forced_one]
     ·rename_i e hu
      cases h
      obtain ⟨e',hL,he⟩:∃ e',(l'.filter fun e=> !seen.contains e.born)=[e']∧EntryRel G st.next φ e e':=by
       unfold unseen at hu
       rw [hu] at hfil
       cases hc:(l'.filter fun e=> !seen.contains e.born) with
       | nil=>rw [hc] at hfil; exact hfil.elim
       | cons x y=>
        rw [hc] at hfil
        cases y with
        | nil=>exact ⟨x,rfl,hfil.1⟩
        | cons _ _=>exact hfil.2.elim
      have hlt:e'.born < since:=by
       have:=hnew e (by rw [hu]; simp)
       rw [he.2.2]
       simpa using this
      have hup:=hR.updObj (o':= .walk m since (seen++[e.born]) clock) (ob':= .mapIter (some (φ m).block) since (seen.toArray.push e'.born) clock) hobj rfl rfl rfl rfl ⟨hsh,⟨m1,m2⟩,by
       show (w.heap.setIfInBounds (φ r).block _)[(φ r).block]?=_
       simp [(Array.getElem?_eq_some_iff.1 hb).1,he.2.2]⟩
      refine ⟨_,_,φ,?_,hup.1,hup.2,.tuple (l':=#[.bool true,e'.key,e'.val]) rfl fun i x y h1 h2=> ?_⟩
      ·unfold Instr.next
       simp only [Sem.run_bind,run_getWalk hb,run_getMap ha,Result.andThen_ok,hgone,Bool.false_eq_true,if_false,hl,hL]
       simp [forced_one,hlt,Nat.not_le.2 hlt,Result.andThen]
       rw [run_setWalk _ hb]
      ·match i,h1,h2 with
       | 0,h1,h2=>simp at h1 h2; subst h1; subst h2; exact .flat rfl
       | 1,h1,h2=>simp at h1 h2; subst h1; subst h2; exact he.1
       | 2,h1,h2=>simp at h1 h2; subst h1; subst h2; exact he.2.1
       | i+3,h1,h2=>simp at h1
     ·cases h
   ·cases h
  ·cases h
 ·cases h
theorem er_find (p:Nat→Bool) {N:Nat}:∀ {l l':List MapEntry} {e:MapEntry},ER G N φ l l'→l.find? (fun e=>p e.born)=some e→∃ e',l'.find? (fun e=>p e.born)=some e'∧EntryRel G N φ e e'
 | [],[],e,_,hf=>by simp at hf
 | x::l,y::l',e,h,hf=>by
  obtain ⟨h1,h2⟩:=h
  rw [List.find?_cons] at hf ⊢
  have hb:y.born=x.born:=h1.2.2
  rw [hb]
  cases hp:p x.born with
  | true=>rw [hp] at hf; cases hf; exact ⟨y,rfl,h1⟩
  | false=>rw [hp] at hf; exact er_find p h2 hf
 | [],_::_,_,h,_=>h.elim
 | _::_,[],_,h,_=>h.elim
theorem evalEntry_sound (hR:R G N0 g φ st w) {x x' v:Value} (h:evalEntry st x=some v) (hx:VRel G st.next φ x x'):∃ v',VRel G st.next φ v v'∧(Instr.entry x').run P w= .ok v' w:=by
 unfold evalEntry at h
 split at h
 case h_2=>cases h
 rename_i r
 split at h
 case h_2=>cases h
 rename_i m since seen last hobj
 split at h
 case h_2=>cases h
 rename_i stamp hs
 split at h
 case h_2=>cases h
 rename_i es clock hmap
 split at h
 case isFalse=>cases h
 rename_i hcl
 split at h
 case h_2=>cases h
 rename_i e hf
 cases h
 subst hcl
 obtain ⟨_,_,_,_,hsh,⟨m1,m2⟩,hb⟩:=hR.obj r _ hobj
 obtain ⟨_,_,_,_,a,ha,hsz,hrel⟩:=hR.obj m _ hmap
 obtain rfl:=ptr_inv hR hobj hsh hx
 obtain ⟨l',rfl⟩:∃ l':List MapEntry,a=l'.toArray:=⟨a.toList,by simp⟩
 have her:ER G st.next φ es l':=er_of es l' (by simpa using hsz) (fun i e e' h1 h2=>hrel i e e' h1 (by simpa using h2))
 obtain ⟨e',hf',he⟩:=er_find (fun b=>b==stamp) her hf
 refine ⟨.tuple #[e'.key,e'.val],.tuple rfl fun i x y h1 h2=> ?_,?_⟩
 ·match i,h1,h2 with
  | 0,h1,h2=>simp at h1 h2; subst h1; subst h2; exact he.1
  | 1,h1,h2=>simp at h1 h2; subst h1; subst h2; exact he.2.1
  | i+2,h1,h2=>simp at h1
 ·have hback:seen.toArray.back?=some stamp:=by rw [← hs]; simp [Array.back?,List.getLast?_eq_getElem?]
  unfold Instr.entry
  simp only [Sem.run_bind,run_getWalk hb,run_getMap ha,Result.andThen_ok,hback]
  simp [hf',run_getMap ha]
theorem evalMapLen_sound (hR:R G N0 g φ st w) {t ty:TypeId} {x x' v:Value} (h:evalMapLen P st t x=some v) (hx:VRel G st.next φ x x') :
  VRel G st.next φ v v∧(Builtin.len_ #[t] ty #[x']).run P w= .ok v w:=by
 unfold evalMapLen at h
 split at h
 ·rename_i kt et ht
  split at h
  ·rename_i r
   split at h
   ·rename_i es clock hobj
    cases h
    obtain rfl:=hx.map_inv
    obtain ⟨_,_,_,_,a,ha,hsz,_⟩:=hR.obj r _ hobj
    refine ⟨.flat rfl,?_⟩
    unfold Builtin.len_
    simp only [Sem.run_bind,run_underlying ht,run_getMap ha,Result.andThen_ok,Sem.run_pure,List.getElem?_toArray,List.getElem?_cons_zero,hsz]
   ·cases h
  ·cases h
 ·cases h
end Go.Ev
namespace Go.Ev
variable {P:Program} {G N0 N:Nat} {g:Glob} {φ:Phi} {st st':St} {w:World}
theorem evalCopy_sound (hR:R G N0 g φ st w) {dT sT ty:TypeId} {d d' s s' v:Value} (h:evalCopy P G g st dT d s=some (v,st')) (hd:VRel G st.next φ d d') (hs:VRel G st.next φ s s') :
  Goes P G N0 g φ st w v st' (Builtin.copy_ #[dT,sT] ty #[d',s']):=by
 unfold evalCopy at h
 split at h
 case h_2=>cases h
 rename_i elem hu
 split at h
 case h_2=>cases h
 rename_i size hsz
 split at h
 case h_2=>cases h
 rename_i b o dLen cap
 obtain ⟨hg,hb,a',cap',rfl,hcase⟩:=hd.slice_inv
 have key:∀ (n:Nat) (l m:List Value),LRel G st.next φ l m→(dLen=0→l=[])→stN G st b o l=some st'→(∀ w,(Builtin.lenOf s').run P w= .ok n w)→(Builtin.firstCells size (Nat.min n dLen) s').run P w= .ok m.toArray w→
   Goes P G N0 g φ st w (.int .i64 (Int.ofNat (Nat.min n dLen))) st' (Builtin.copy_ #[dT,sT] ty #[.slice (some a') dLen cap',s']):=by
  intro n l m hl h0 hst hlen hf
  obtain ⟨w',k1,k2,k3,k4⟩:=stN_sound P l m o 0 st st' w hR hst hl
  have hst2:(storeCells a' m 0).run P w= .ok () w':=by
   rcases hcase with ⟨_,_,rfl⟩ | ⟨_,_,_,_,rfl⟩ | ⟨_,_,h2,_⟩
   ·rw [Phi.at_conc hg]; exact k1
   ·rw [Phi.at_conc hg]; exact k1
   ·have:=h0 h2
    subst this
    cases m with
    | nil=>exact k1
    | cons=>exact hl.elim
  refine ⟨_,w',φ,?_,k2,k3,.flat rfl⟩
  have hmin:(min n dLen)=Nat.min n dLen:=rfl
  have hty:(underlying dT).run P w= .ok (.slice elem) w:=run_underlying hu w
  simp [Builtin.copy_,run_underlying hu,hlen,run_sizeAt hsz,hf,hst2,goInt]
 split at h
 ·rename_i b' o' n c
  split at h
  case h_2=>cases h
  rename_i l hl
  split at h
  case isFalse=>cases h
  split at h
  case h_2=>cases h
  rename_i st₁ hst
  cases h
  obtain ⟨hg2,hb2,a2,cap2,rfl,hcase2⟩:=hs.slice_inv
  obtain ⟨m,h1,h2,h3⟩:=ldN_sound hR _ _ _ hl
  refine key n l m h1 (fun h0=> ?_) hst (fun w=>rfl) ?_
  ·have:l.length=0:=by rw [h1.get.1,h2,h0]; simp
   exact List.eq_nil_of_length_eq_zero this
  ·show (loadCells a2 (Nat.min n dLen*size)).run P w=_
   rcases hcase2 with ⟨_,_,rfl⟩ | ⟨_,_,_,_,rfl⟩ | ⟨_,_,h0,_⟩
   ·rw [Phi.at_conc hg2,← h2]; exact run_loadCells_list w _ _ h3
   ·rw [Phi.at_conc hg2,← h2]; exact run_loadCells_list w _ _ h3
   ·subst h0
    have:m=[]:=List.eq_nil_of_length_eq_zero (by rw [h2]; simp)
    subst this
    simp [loadCells,loadCellsFrom]
 ·rename_i s
  split at h
  case h_2=>cases h
  rename_i st₁ hst
  cases h
  obtain rfl:=hs.string_inv
  have hfl:∀ l:List UInt8,flatL (l.map fun b=>Value.int .u8 b.toNat)=true:=by
   intro l
   induction l with
   | nil=>rfl
   | cons b l ih=>simp only [List.map_cons,flatL,ih]; rfl
  refine key s.size _ _ (LRel.refl_flat (hfl _)) (fun h0=> ?_) hst (fun w=>rfl) ?_
  ·subst h0
   have:Nat.min s.size 0=0:=by show min s.size 0=0; simp
   rw [this]
   have he:(s.extract 0 0).data.toList=[]:=by
    have:(s.extract 0 0)=ByteArray.empty:=by
     apply ByteArray.ext; simp
    rw [this]; rfl
   rw [he]; rfl
  ·have he2:((s.extract 0 (Nat.min s.size dLen)).data.map fun b=>Value.int .u8 b.toNat)=((s.extract 0 (Nat.min s.size dLen)).data.toList.map fun b=>Value.int .u8 b.toNat).toArray:=by
    apply Array.ext'; simp
   simp only [Builtin.firstCells,he2]
   rfl
 ·cases h
theorem liesAt_any {e:TypeId} (hc:P.cellsOf e=1) (count off n:Nat) (hn:off+n≤count):liesAt P P.depth e count off e n=true:=by
 have hd:P.depth=(2*(P.types.size+Made.depth)+1)+1:=rfl
 rw [hd]
 simp only [liesAt,Bool.or_eq_true]
 left
 rw [hd]
 simp [rowAt,hc,hn,sameLayout,Nat.mod_one]
theorem freeze_heap {w:World} {b o n:Nat} {a:Array Value} {e:TypeId} {fz:Nat × Nat} (hn:n≠0) (h:w.heap[b]?=some (.cells a e fz)) :
  ∃ fz',(w.freeze ⟨b,o,none⟩ n).heap[b]?=some (.cells a e fz')∧(∀ k,k≠b→(w.freeze ⟨b,o,none⟩ n).heap[k]?=w.heap[k]?)∧(w.freeze ⟨b,o,none⟩ n).heap.size=w.heap.size∧
   (w.freeze ⟨b,o,none⟩ n).os=w.os∧(w.freeze ⟨b,o,none⟩ n).tape=w.tape∧(w.freeze ⟨b,o,none⟩ n).output=w.output:=by
 obtain ⟨lo,hi⟩:=fz
 refine ⟨if lo==hi then (o,o+n) else (min lo o,max hi (o+n)),?_,fun k hk=> ?_,?_,?_,?_,?_⟩ <;> unfold World.freeze <;> rw [if_neg hn]
 ·simp [Array.getElem?_modify,h]
 ·simp only [Array.getElem?_modify]
  rw [if_neg (fun he=>hk he.symm)]
 ·simp
theorem freeze_sound (hR:R G N0 g φ st w) {b o n:Nat} {e:TypeId} (hn:n≠0) (h:st.freeze b e=some st') :
  R G N0 g φ st' (w.freeze ⟨(φ b).block,o,none⟩ n)∧Tr φ st w φ st' (w.freeze ⟨(φ b).block,o,none⟩ n)∧st'.next=st.next∧∃ (a:Array Value) (fz:Nat × Nat),w.heap[(φ b).block]?=some (.cells a e fz):=by
 unfold St.freeze at h
 split at h
 ·rename_i c k e0 hget
  cases he:Nat.beq e0 e with
  | false=>rw [he] at h; cases h
  | true=>
   rw [he] at h
   simp only [cond_true] at h
   cases h
   obtain rfl:=Nat.eq_of_beq_eq_true he
   obtain ⟨_,_,_,_,hsh,a,ha,hsz,hcs⟩:=hR.obj b _ hget
   obtain ⟨fz',f1,f2,f3,f4,f5,f6⟩:=freeze_heap (o:=o) hn ha
   have:=hR.upd (o':= .spent) (fams':=st.fams) (w':=w.freeze ⟨(φ b).block,o,none⟩ n) hget rfl rfl f2 f3 f4 f5 f6 (fun _ _=>rfl) (fun r f' hf=>⟨f',hf,rfl⟩) trivial (fun id oi r hr=>by simp [AObj.root?] at hr)
   exact ⟨this.1,this.2,rfl,a,_,ha⟩
 ·rename_i c k e0 r hget
  cases he:Nat.beq e0 e with
  | false=>rw [he] at h; cases h
  | true=>
   rw [he] at h
   simp only [cond_true] at h
   split at h
   case h_2=>cases h
   rename_i f hfam
   cases h
   obtain rfl:=Nat.eq_of_beq_eq_true he
   obtain ⟨j1,j2,j3,j4,a,fz,f0,ha,hfz,hsz,hle,hfam0,htip,hro,hcs⟩:=hR.obj b _ hget
   rw [hfam] at hfam0; cases hfam0
   obtain ⟨fz',f1,f2,f3,f4,f5,f6⟩:=freeze_heap (o:=o) hn ha
   have hfs:∀ r',(st.fams.set r ⟨f.tip,st.next⟩).get r'=if r'=r then some ⟨f.tip,st.next⟩ else st.fams.get r':=fun r'=>T.get_set _ _ _ _
   have hobj:∀ id ci ni ei,st.heap.get id=some (.grown ci ni ei r)→ObjRel G φ ⟨st.heap.set b (.grown c k e0 r),st.fams.set r ⟨f.tip,st.next⟩,st.next⟩ (w.freeze ⟨(φ b).block,o,none⟩ n) id (.grown ci ni ei r):=by
    intro id ci ni ei hid
    obtain ⟨q1,q2,q3,q4,a2,fz2,f2',ha2,hfz2,hsz2,hle2,hfam2,htip2,hro2,_⟩:=hR.obj id _ hid
    rw [hfam] at hfam2; cases hfam2
    by_cases hbl:(φ id).block=(φ b).block
    ·rw [hbl,ha] at ha2; cases ha2
     exact ⟨a,fz',⟨f.tip,st.next⟩,by rw [hbl]; exact f1,fun hl=>by (simp only at hl; omega),hsz2,hle2,by rw [hfs,if_pos rfl],htip2,hro2,fun hl=>by (simp only at hl; omega)⟩
    ·exact ⟨a2,fz2,⟨f.tip,st.next⟩,by rw [f2 _ hbl]; exact ha2,fun hl=>by (simp only at hl; omega),hsz2,hle2,by rw [hfs,if_pos rfl],htip2,hro2,fun hl=>by (simp only at hl; omega)⟩
   have:=hR.upd (o':= .grown c k e0 r) (fams':=st.fams.set r ⟨f.tip,st.next⟩) (w':=w.freeze ⟨(φ b).block,o,none⟩ n) hget rfl rfl f2 f3 f4 f5 f6
    (fun r' hr'=>by rw [hfs,if_neg (fun h=>hr' (by rw [h]; rfl))])
    (fun r' f' hf'=>by
     rw [hfs] at hf'
     by_cases hrr:r'=r
     ·subst hrr; rw [if_pos rfl] at hf'; cases hf'; exact ⟨f,hfam,rfl⟩
     ·rw [if_neg hrr] at hf'; exact ⟨f',hf',rfl⟩)
    (hobj b c k e0 hget)
    (fun id oi r' hr' hid hroot hne=>by
     cases hr'
     cases oi with
     | grown ci ni ei ri=>cases hroot; exact hobj id ci ni ei hid
     | cells=>simp [AObj.root?] at hroot
     | map=>simp [AObj.root?] at hroot
     | iter=>simp [AObj.root?] at hroot
     | walk=>simp [AObj.root?] at hroot
     | loop=>simp [AObj.root?] at hroot
     | marks=>simp [AObj.root?] at hroot
     | spent=>simp [AObj.root?] at hroot)
   have same:R G N0 g φ ⟨st.heap,st.fams.set r ⟨f.tip,st.next⟩,st.next⟩ (w.freeze ⟨(φ b).block,o,none⟩ n)∧Tr φ st w φ ⟨st.heap,st.fams.set r ⟨f.tip,st.next⟩,st.next⟩ (w.freeze ⟨(φ b).block,o,none⟩ n):=by
    obtain ⟨hR',hT⟩:=this
    have hh:∀ id,(st.heap.set b (.grown c k e0 r)).get id=st.heap.get id:=fun id=>by
     rw [T.get_set]
     by_cases hid:id=b
     ·rw [if_pos hid,hid,hget]
     ·rw [if_neg hid]
    exact ⟨⟨hR'.base,hR'.room,fun id o ho=>hR'.obj id o (by rw [hh]; exact ho),fun i j oi oj hi hj=>hR'.sep i j oi oj (by rw [hh]; exact hi) (by rw [hh]; exact hj),
      fun i j oi oj r f hi hri hj hrj hf=>hR'.tip i j oi oj r f (by rw [hh]; exact hi) hri (by rw [hh]; exact hj) hrj hf,hR'.glob⟩,
     ⟨hT.next,hT.ext,fun id o hid ho=>hT.dom id o hid (by rw [hh]; exact ho),fun id o hid ho=>hT.new id o hid (by rw [hh]; exact ho),hT.fr,hT.size,hT.os,hT.tape,hT.output⟩⟩
   exact ⟨same.1,same.2,rfl,a,fz,ha⟩
 ·cases h
theorem evalUnsafeString_sound (hR:R G N0 g φ st w) {pT iT ty:TypeId} {p p' n n' v:Value} (h:evalUnsafeString P G g st pT p n=some (v,st')) (hp:VRel G st.next φ p p') (hn:VRel G st.next φ n n') :
  Goes P G N0 g φ st w v st' (Builtin.unsafeString_ #[pT,iT] ty #[p',n']):=by
 unfold evalUnsafeString at h
 split at h
 case h_2=>cases h
 rename_i k0 k
 obtain rfl:=hn.int_inv
 split at h
 case h_2=>cases h
 rename_i pa
 cases h0:Nat.beq k 0 with
 | true=>
  rw [h0] at h
  simp only [cond_true] at h
  cases h
  obtain rfl:=Nat.eq_of_beq_eq_true h0
  obtain ⟨pa',rfl⟩:∃ pa',p'= .pointer pa':=by cases hp <;> exact ⟨_,rfl⟩
  refine ⟨_,w,φ,?_,hR,Tr.refl _ _ _,.flat rfl⟩
  have hmax:IntKind.i64.max=9223372036854775807:=rfl
  cases pa' with
  | none=>
   have hdef:Builtin.unsafeString_ #[pT,iT] ty #[.pointer none,.int k0 (Int.ofNat 0)]=
     (do
      let n ← asInt (.int k0 (Int.ofNat 0))
      if n < 0 then runtimePanic (.error "unsafe.String: len out of range")
      if n > IntKind.i64.max then unsupported (.unsafePointer "String: a length above the largest int")
      if n=0 then pure (.string .empty)
      else runtimePanic (.error "unsafe.String: ptr is nil and len is not zero")):=rfl
   rw [hdef]
   simp [asInt,asIntOf,hmax]
  | some a=>
   have hdef:Builtin.unsafeString_ #[pT,iT] ty #[.pointer (some a),.int k0 (Int.ofNat 0)]=
     (do
      let n ← asInt (.int k0 (Int.ofNat 0))
      if n < 0 then runtimePanic (.error "unsafe.String: len out of range")
      if n > IntKind.i64.max then unsupported (.unsafePointer "String: a length above the largest int")
      if n=0 then pure (.string .empty)
      else if ← variablesAt a (← elemOf pT) n.toNat then do
       let s ← loadBytes a .empty n.toNat
       freeze a n.toNat
       pure (.string s)
      else unsupported (.unsafePointer "String: not so many bytes at ptr")):=rfl
   rw [hdef]
   simp [asInt,asIntOf,hmax]
 | false=>
  rw [h0] at h
  simp only [cond_false] at h
  have hk0:k≠0:=Nat.ne_of_beq_eq_false h0
  cases h1:Nat.blt k 9223372036854775808 with
  | false=>rw [h1] at h; cases h
  | true=>
   rw [h1] at h
   simp only [cond_true] at h
   have hk:=blt_true h1
   split at h
   case h_2=>cases h
   rename_i b o
   split at h
   case h_2=>cases h
   rename_i e hu
   cases hc:(Nat.beq (P.cellsOf e) 1 && Nat.ble G b) with
   | false=>rw [hc] at h; cases h
   | true=>
    rw [hc] at h
    simp only [cond_true] at h
    rw [Bool.and_eq_true] at hc
    have hc1:=Nat.eq_of_beq_eq_true hc.1
    have hG:=Nat.le_of_ble_eq_true hc.2
    split at h
    case h_2=>cases h
    rename_i l hl
    split at h
    case h_2=>cases h
    rename_i bs hbs
    split at h
    case h_2=>cases h
    rename_i st₁ hfr
    cases h
    obtain ⟨_,_,rfl⟩:=hp.ptr_inv
    have hconc:φ.conc G b o=⟨(φ b).block,(φ b).shift+o,none⟩:=by rw [← Phi.at_conc hG]; rfl
    obtain ⟨m,q1,q2,q3⟩:=ldN_sound hR _ _ _ hl
    obtain ⟨ns,rfl,rfl⟩:=bytesOf_spec hbs
    obtain rfl:=q1.ints
    obtain ⟨r1,r2,r3,a,fz,ha⟩:=freeze_sound (o:=(φ b).shift+o) hR hk0 hfr
    have hlen:ns.length=k:=by simpa using q2
    have hcell:∀ j x,(ns.map fun n=>UInt8.ofNat n.toNat)[j]?=some x→w.cell? ((φ.conc G b o).add j)=some (.int .u8 ((ns[j]?).getD 0)):=fun j x hj=>by
     have hj':j < ns.length:=by have:=(List.getElem?_eq_some_iff.1 hj).1; simpa using this
     have:=q3 j (.int .u8 ns[j]) (by simp [hj'])
     rw [this]; simp [hj']
    have hlast:w.cell? ((φ.conc G b o).add (k - 1))=some (.int .u8 ((ns[k - 1]?).getD 0)):=by
     have hj':k - 1 < ns.length:=by omega
     have:=q3 (k - 1) (.int .u8 ns[k - 1]) (by simp [hj'])
     rw [this]; simp [hj']
    have hfit:(φ b).shift+o+k≤a.size:=by
     rw [hconc] at hlast
     have e1:(⟨(φ b).block,(φ b).shift+o,none⟩:Addr).add (k - 1)=⟨(φ b).block,(φ b).shift+o+(k - 1),none⟩:=by
      unfold Addr.add; split <;> simp_all
     rw [e1,cell_of_block ha] at hlast
     have:=(Array.getElem?_eq_some_iff.1 hlast).1
     omega
    have hload:∀ (l:List Int) (i:Nat) (acc:ByteArray),(∀ (j:Nat) (x:Int),l[j]?=some x→w.cell? ((φ.conc G b o).add (i+j))=some (.int .u8 x))→
      (loadBytes ((φ.conc G b o).add i) acc l.length).run P w= .ok (l.foldl (fun r n=>r.push (UInt8.ofNat n.toNat)) acc) w:=by
     intro l
     induction l with
     | nil=>intro i acc _; rfl
     | cons x l ih=>
      intro i acc hx
      have hx0:=hx 0 x rfl
      rw [Nat.add_zero] at hx0
      have hadd:((φ.conc G b o).add i).add 1=(φ.conc G b o).add (i+1):=by
       rw [Phi.conc_add,Phi.conc_add,Phi.conc_add,Nat.add_assoc]
      simp only [List.length_cons,loadBytes,Sem.run_bind,run_load,hx0,Result.andThen_ok,hadd,List.foldl_cons]
      refine ih (i+1) _ fun j y hj=> ?_
      have:=hx (j+1) y (by simpa using hj)
      rwa [show i+1+j=i+(j+1) by omega]
    have hload':=hload ns 0 ByteArray.empty (fun j x hj=>by
     have:=q3 j (.int .u8 x) (by simp [hj])
     rwa [Nat.zero_add])
    have hadd0:(φ.conc G b o).add 0=φ.conc G b o:=by rw [Phi.conc_add,Nat.add_zero]
    rw [hadd0,hlen,fold_push] at hload'
    refine ⟨_,_,φ,?_,r1,r2,.flat rfl⟩
    have hsh:w.shape? (φ b).block=some (e,a.size):=by simp [World.shape?,ha]
    have hlies:=liesAt_any (P:=P) hc1 (a.size / P.cellsOf e) ((φ b).shift+o) k (by rw [hc1]; simpa using hfit)
    have hmax:IntKind.i64.max=9223372036854775807:=rfl
    have hneg:¬ (k:Int) < 0:=by omega
    have h63:¬ (9223372036854775807:Int) < (k:Int):=by omega
    rw [hconc] at hload' ⊢
    have hemp:(ByteArray.empty.data.toList++ns.map fun n=>UInt8.ofNat n.toNat)=ns.map fun n=>UInt8.ofNat n.toNat:=by
     show ([]:List UInt8)++_=_
     rfl
    rw [hemp] at hload'
    have hdef:∀ a,Builtin.unsafeString_ #[pT,iT] ty #[.pointer (some a),.int k0 (Int.ofNat k)]=
      (do
       let n ← asInt (.int k0 (Int.ofNat k))
       if n < 0 then runtimePanic (.error "unsafe.String: len out of range")
       if n > IntKind.i64.max then unsupported (.unsafePointer "String: a length above the largest int")
       if n=0 then pure (.string .empty)
       else if ← variablesAt a (← elemOf pT) n.toNat then do
        let s ← loadBytes a .empty n.toNat
        freeze a n.toNat
        pure (.string s)
       else unsupported (.unsafePointer "String: not so many bytes at ptr")):=fun _=>rfl
    rw [hdef]
    simp [asInt,asIntOf,hmax,h63,hneg,hk0,variablesAt,hsh,elemOf,run_underlying hu,hlies,hload']
theorem evalPtrConv_sound (hR:R G N0 g φ st w) {src dst:TypeId} {x x' v:Value} (h:evalPtrConv P st src dst x=some v) (hx:VRel G st.next φ x x') :
  VRel G st.next φ v x'∧(convert src dst x').run P w= .ok x' w:=by
 unfold evalPtrConv at h
 split at h
 ·rename_i t b o hs hd
  split at h
  case h_2=>cases h
  rename_i c n e hget
  split at h
  case h_2=>cases h
  rename_i k hsz
  cases ho:Nat.blt o n with
  | false=>rw [ho] at h; cases h
  | true=>
   rw [ho] at h
   simp only [cond_true] at h
   cases h
   refine ⟨hx,?_⟩
   obtain ⟨hG,_,_,_,hsh,a,ha,hasz,_⟩:=hR.obj b _ hget
   obtain ⟨_,_,rfl⟩:=hx.ptr_inv
   have hconc:φ.conc G b o=⟨(φ b).block,o,none⟩:=by rw [← Phi.at_conc hG,Phi.at,hsh,Nat.zero_add]
   rw [hconc]
   have hshape:w.shape? (φ b).block=some (e,a.size):=by simp [World.shape?,ha]
   have hno:¬ (a.size≤o):=by have:=blt_true ho; omega
   simp [convert,run_underlying hs,run_underlying hd,Conv.unsafePointer,Conv.seenAt,viewAt,hshape,cellsIn,run_sizeAt hsz,hno]
 ·rename_i u b o hs hd
  split at h
  case h_2=>cases h
  rename_i c n e hget
  split at h
  case h_2=>cases h
  rename_i k hsz
  cases ho:liesAt P P.depth e (n / P.cellsOf e) o u 1 with
  | false=>rw [ho] at h; cases h
  | true=>
   rw [ho] at h
   simp only [cond_true] at h
   cases h
   refine ⟨hx,?_⟩
   obtain ⟨hG,_,_,_,hsh,a,ha,hasz,_⟩:=hR.obj b _ hget
   obtain ⟨_,_,rfl⟩:=hx.ptr_inv
   have hconc:φ.conc G b o=⟨(φ b).block,o,none⟩:=by rw [← Phi.at_conc hG,Phi.at,hsh,Nat.zero_add]
   rw [hconc]
   have hshape:w.shape? (φ b).block=some (e,a.size):=by simp [World.shape?,ha]
   simp [convert,run_underlying hs,run_underlying hd,Conv.unsafePointer,Conv.seenAt,viewAt,hshape,run_sizeAt hsz,variablesAt,hasz,ho]
 ·cases h
end Go.Ev
namespace Go.Ev
variable {P:Program} {G N0 N:Nat} {g:Glob} {φ:Phi} {st st':St} {w:World}
theorem shape_alloc (w:World) (C:Array Value) (e:TypeId):(w.alloc (.cells C e)).shape? w.heap.size=some (e,C.size):=by
 have:(w.alloc (.cells C e)).heap[w.heap.size]?=some (.cells C e):=by rw [heap_alloc,if_pos rfl]
 unfold World.shape?
 rw [this]
theorem freeze_alloc (w:World) (C:Array Value) (e:TypeId) (k:Nat):(w.alloc (.cells C e)).freeze ⟨w.heap.size,k,none⟩ 1=w.alloc (.cells C e (k,k+1)):=by
 have hm:∀ (a:Array Obj) (x:Obj) (f:Obj→Obj),(a.push x).modify a.size f=a.push (f x):=by
  intro a x f
  apply Array.ext
  ·simp
  ·intro i h1 h2
   simp only [Array.getElem_modify,Array.getElem_push]
   by_cases hi:a.size=i
   ·subst hi; simp
   ·rw [if_neg hi]
    have:i < a.size:=by simp at h2; omega
    simp [this]
 show (if 1=0 then _ else ({ (w.alloc (.cells C e)) with heap:=(w.heap.push (.cells C e)).modify w.heap.size _ }:World))=_
 rw [if_neg (by decide),hm]
 rfl
def strCells (s:ByteArray) (cap:Nat):Array Value:=s.data.map (fun b:UInt8=>Value.int .u8 b.toNat)++Array.replicate (cap - s.size) (Value.int .u8 0)
theorem run_toBytes {src dst e:TypeId} {s:ByteArray} (hs:P.underlying src=some .string) (hd:P.underlying dst=some (.slice e)) (he:P.underlying e=some (.int .u8)) (w:World) :
  (convert src dst (.string s)).run P w= .ok (.slice (some ⟨w.heap.size,0,none⟩) s.size (grownCap w s.size 0 e))
   (w.drew.alloc (.cells (strCells s (grownCap w s.size 0 e)) e ((strCells s (grownCap w s.size 0 e)).size,(strCells s (grownCap w s.size 0 e)).size+1))):=by
 have h1:(choose (.appendCap s.size 0 e)).run P w= .ok (grownCap w s.size 0 e) w.drew:=by
  simp [Question.forced,grownCap]
 generalize grownCap w s.size 0 e=cap at*
 have h2:∀ (C:Array Value),(shape w.drew.heap.size).run P (w.drew.alloc (.cells C e))= .ok (some (e,C.size)) (w.drew.alloc (.cells C e)):=fun C=>by
  show Result.ok ((w.drew.alloc (.cells C e)).shape? w.drew.heap.size) _=_
  rw [shape_alloc]
 have h3:∀ (C:Array Value) (k:Nat),(freeze ⟨w.drew.heap.size,k,none⟩ 1).run P (w.drew.alloc (.cells C e))= .ok () (w.drew.alloc (.cells C e (k,k+1))):=fun C k=>by
  show Result.ok () ((w.drew.alloc (.cells C e)).freeze ⟨w.drew.heap.size,k,none⟩ 1)=_
  rw [freeze_alloc]
 have h4:∀ (C:Array Value),(newRow e C).run P w.drew= .ok ⟨w.drew.heap.size,0,none⟩ (w.drew.alloc (.cells C e)):=fun C=>rfl
 simp only [convert,Sem.run_bind,run_underlying hs,run_underlying hd,run_underlying he,Result.andThen_ok,Conv.stringToBytes,h1,h4,Sem.run_pure,markStringish,h2,h3]
 rfl
theorem evalToBytes_sound (hR:R G N0 g φ st w) {src dst:TypeId} {x x' v:Value} (h:evalToBytes P st src dst x=some (v,st')) (hx:VRel G st.next φ x x') :
  Goes P G N0 g φ st w v st' (convert src dst x'):=by
 unfold evalToBytes at h
 split at h
 ·rename_i e s hs hd
  split at h
  ·rename_i he
   cases h
   obtain rfl:x'= .string s:=hx.string_inv
   have hfl:flatL (s.data.toList.map fun b=>Value.int .u8 b.toNat)=true:=by
    generalize s.data.toList=l
    induction l with
    | nil=>rfl
    | cons b l ih=>simp only [List.map_cons,flatL,ih]; rfl
   have hge:=grownCap_ge w s.size 0 e
   have hsz:(strCells s (grownCap w s.size 0 e)).size=grownCap w s.size 0 e:=by
    unfold strCells
    simp only [Array.size_append,Array.size_map,Array.size_replicate]
    have:s.data.size=s.size:=rfl
    omega
   have hR':=hR.drew (w.drawn+1)
   obtain ⟨φ',k1,k2,k3⟩:=R.newGrown (e:=e) (a:=strCells s (grownCap w s.size 0 e))
    (fz:=((strCells s (grownCap w s.size 0 e)).size,(strCells s (grownCap w s.size 0 e)).size+1)) hR' (LRel.refl_flat hfl)
    (fun j u hj=>by
     have hlt:j < s.data.size:=by
      rcases Nat.lt_or_ge j s.data.size with h | h
      ·exact h
      ·rw [List.getElem?_eq_none (by simpa using h)] at hj; cases hj
     unfold strCells
     rw [Array.getElem?_append_left (by simpa using hlt)]
     simpa using hj)
    (.inr (Nat.le_refl _))
   refine ⟨_,_,φ',run_toBytes hs hd he w,k1,(Tr.drew φ st w _).trans k2,?_⟩
   have hconc:(⟨w.heap.size,0,none⟩:Addr)=φ'.at st.next 0:=by rw [Phi.at,k3]
   rw [hconc]
   refine .grown hR.base (Nat.lt_succ_self _) hge hge (by decide) ?_
   rw [k3,hsz]
   simp
  ·cases h
 ·cases h
structure CallOk (P:Program) (G N0:Nat) (g:Glob) (call:Caller):Prop where
 fn:∀ f args st v st',call (.fn f) args st=some (v,st')→∀ φ w args',R G N0 g φ st w→ARel G st.next φ ⟨args⟩ args'→
  Calls P f args' w fun e w'=>∃ v' φ',e= .returned v'∧R G N0 g φ' st' w'∧Tr φ st w φ' st' w'∧VRel G st'.next φ' v v'
 round:∀ l args st v st',call (.yield l) args st=some (v,st')→∀ φ w args',R G N0 g φ st w→ARel G st.next φ ⟨args⟩ args'→
  ∃ fn tmps assign body,(Instr.yield (φ l).block args').run P w= .ok (.round (φ l).block fn tmps assign body) w∧
   RoundIn Fence.wide 0 P (φ l).block fn tmps assign body w fun e w'=>∃ v' φ',e= .returned v'∧R G N0 g φ' st' w'∧Tr φ st w φ' st' w'∧VRel G st'.next φ' v v'
abbrev Fw (ro:Option Nat):Fence:={ fn:=fun _=>True,depth:=none,alive:=false,round:=ro }
structure ExtOk (P:Program) (ext:Ext):Prop where
 fn:∀ f h args v,ext.fn f=some h→h args=some v→flat v=true∧∀ w,(callFunc f ⟨args⟩).run P w= .ok (.value v) w
 spec:∀ f args st v st',ext.spec f args st=some (v,st')→∀ (G N0:Nat) (g:Glob) (φ:Phi) (w:World) (args':Array Value),R G N0 g φ st w→ARel G st.next φ ⟨args⟩ args'→
  Calls P f args' w fun e w'=>∃ v' φ',e= .returned v'∧R G N0 g φ' st' w'∧Tr φ st w φ' st' w'∧VRel G st'.next φ' v v'
 clone:∀ f args w,ext.clone f=true→(callFunc f args).run P w=((Extern.MapsClone.clone args).run P w).andThen fun v w'=> .ok (.value v) w'
 same:∀ f x w,ext.same f=true→(callFunc f #[x]).run P w= .ok (.value x) w
theorem evalClone_sound (hR:R G N0 g φ st w) {args:List Value} {args':Array Value} {v:Value} (h:evalClone args st=some (v,st')) (ha:ARel G st.next φ ⟨args⟩ args') :
  ∃ v' w' φ',(Extern.MapsClone.clone args').run P w= .ok v' w'∧R G N0 g φ' st' w'∧Tr φ st w φ' st' w'∧VRel G st'.next φ' v v':=by
 unfold evalClone at h
 split at h
 ·rename_i t r
  split at h
  ·rename_i es clock hobj
   cases h
   have hsz:args'.size=1:=ha.1.symm
   obtain ⟨x,hx⟩:∃ x,args'=#[x]:=⟨args'[0],by
    apply Array.ext
    ·simpa using hsz
    ·intro i h1 h2
     have:i=0:=by simp at h2; omega
     subst this; rfl⟩
   subst hx
   have hxr:=ha.2 0 _ _ rfl rfl
   obtain ⟨u,rfl,hu⟩:=hxr.iface_inv
   obtain rfl:=hu.map_inv
   obtain ⟨_,_,_,_,a,hb,hsz',hrel⟩:=hR.obj r _ hobj
   have hg:=run_getMap (P:=P) hb
   have hn:=hR.new (o:= .map es clock) (ob:= .map a clock) (l:=⟨w.heap.size,0,0⟩) (fams':=st.fams) rfl (fun _ f _ hf=>⟨f,hf,rfl,Nat.le_refl _⟩) (fun _ _ hf _=>hf)
    (fun φ' h1 h2=>⟨a,by rw [h1,heap_alloc,if_pos rfl],hsz',fun i e e' he he'=>by
     obtain ⟨k1,k2,k3⟩:=hrel i e e' he he'
     exact ⟨k1.mono (Nat.le_succ _) h2,k2.mono (Nat.le_succ _) h2,k3⟩⟩)
   have hrun:(Extern.MapsClone.clone #[.iface t (.map (some (φ r).block))]).run P w= .ok (.iface t (.map (some w.heap.size))) (w.alloc (.map a clock)):=by
    have hdef:Extern.MapsClone.clone #[.iface t (.map (some (φ r).block))]=(getObj (φ r).block >>= fun o=>match o with
      | .map entries clock=>(newObj (.map entries clock) >>= fun k=>pure (.iface t (.map (some k))))
      | _=>(stuck "maps.clone: a map expected")):=rfl
    rw [hdef]
    simp only [Sem.run_bind,hg,Result.andThen_ok]
    rfl
   have hv:VRel G (st.next+1) (φ.upd st.next ⟨w.heap.size,0,0⟩) (.map (some st.next)) (.map (some ((φ.upd st.next ⟨w.heap.size,0,0⟩) st.next).block)):= .map hR.base (Nat.lt_succ_self _)
   rw [Phi.upd_at] at hv
   exact ⟨_,_,_,hrun,hn.1,hn.2,.iface hv⟩
  ·cases h
 ·cases h
theorem R.below (hR:R G N0 g φ st w) {w':World} (hb:RowKit.Below w.heap.size w w'):R G N0 g φ st w'∧Tr φ st w φ st w':=by
 refine ⟨⟨hR.base,Nat.le_trans hR.room hb.size,fun id o ho=> ?_,hR.sep,hR.tip,fun b o v hv=> ?_⟩,?_⟩
 ·obtain ⟨k1,k2,k3,k4,k5⟩:=hR.obj id o ho
  exact ⟨k1,k2,k3,Nat.lt_of_lt_of_le k4 hb.size,k5.congr rfl (fun _ _=>rfl) (Nat.le_refl _) (hb.block _ k4) fun _ _ f hf=>⟨f,hf,rfl,Nat.le_refl _⟩⟩
 ·obtain ⟨k1,k2,k3,k4⟩:=hR.glob b o v hv
  exact ⟨k1,k2,by rw [hb.cell (by exact Nat.lt_of_lt_of_le k1 hR.room)]; exact k3,k4⟩
 ·exact ⟨Nat.le_refl _,fun _ _=>rfl,fun _ o _ h=>⟨o,h⟩,fun id o _ h=> .inr ⟨id,o,h,rfl⟩,fun b hb' _=>hb.block b hb',hb.size,hb.os,hb.tape,hb.output⟩
theorem wpIn_of {ro:Option Nat} {o:Oper} {a:Act} {K:Act→World→Prop} {Q:Exit→Act→World→Prop} {r:Result Next} (hd:∀ c,o.op≠ .defer c) (hrun:(execOp a.eval o).run P w=r)
  (h:o.uponIn (Fw ro) 0 P a K Q r):o.wpIn (Fw ro) 0 P a w K Q:=⟨fun _ _=>trivial,by rw [Oper.semAt_eq _ _ _ hd,hrun]; exact h⟩
theorem Goes.wp {ro:Option Nat} {v:Value} {o:Oper} {a:Act} {s:Sem Value} (h:Goes P G N0 g φ st w v st' s) (he:execOp a.eval o=(do pure (.value (← s))))
  {K:Act→World→Prop} {Q:Exit→Act→World→Prop} (hK:∀ v' w' φ',R G N0 g φ' st' w'→Tr φ st w φ' st' w'→VRel G st'.next φ' v v'→K (a.put o.dst v') w') (hd:∀ c,o.op≠ .defer c:=by intro c h; cases h):o.wpIn (Fw ro) 0 P a w K Q:=by
 obtain ⟨v',w',φ',h1,h2,h3,h4⟩:=h
 refine wpIn_of (r:= .ok (.value v') w') hd ?_ (hK v' w' φ' h2 h3 h4)
 rw [he]
 simp only [Sem.run_bind,h1,Result.andThen_ok,Sem.run_pure]
theorem evalQuiet_defer {ρ:Operand→Value} {o:Oper} {v:Value} (h:evalQuiet P G ρ o=some v):∀ c,o.op≠ .defer c:=by
 intro c hc
 obtain ⟨dst,op,type,pos,after,guard⟩:=o
 simp only at hc
 subst hc
 unfold evalQuiet at h
 simp only [evalFast,evalPure,evalFlat] at h
 split at h
 ·unfold execOp at h
  simp only at h
  have:∀ s:Sem Deferred,peek P (do pure (Next.defer (← s)))=none∨∃ d,peek P (do pure (Next.defer (← s)))=some (.defer d):=by
   intro s
   induction s with
   | pure d=>exact .inr ⟨d,rfl⟩
   | program k ih=>exact ih P
   | mark m k ih=>exact ih
   | _=>exact .inl rfl
  rcases this (resolve ρ c type) with h1 | ⟨d,h1⟩ <;> rw [h1] at h <;> cases h
 ·cases h
theorem evalRead_defer {ρ:Operand→Value} {o:Oper} {v:Value} (h:evalRead P G g st ρ o=some v):∀ c,o.op≠ .defer c:=by
 intro c hc
 obtain ⟨dst,op,type,pos,after,guard⟩:=o
 simp only at hc
 subst hc
 cases h
theorem evalQuiet_sound {ρ ρ':Operand→Value} {o:Oper} {v:Value} (h:evalQuiet P G ρ o=some v) (hr:OpRel G N φ o ρ ρ') :
  ∃ v',VRel G N φ v v'∧∀ w,(execOp ρ' o).run P w= .ok (.value v') w:=by
 unfold evalQuiet at h
 split at h
 ·rename_i u hu; cases h; exact evalFast_sound hu hr
 ·split at h
  ·rename_i u hu; cases h; exact evalPure_sound hu hr
  ·exact ⟨v,evalFlat_sound h hr⟩
theorem evalRead_sound (hR:R G N0 g φ st w) {ρ ρ':Operand→Value} {o:Oper} {v:Value} (h:evalRead P G g st ρ o=some v) (hr:OpRel G st.next φ o ρ ρ') :
  ∃ v',VRel G st.next φ v v'∧(execOp ρ' o).run P w= .ok (.value v') w:=by
 obtain ⟨dst,op,type,pos,after,guard⟩:=o
 unfold OpRel at hr
 simp only at hr
 unfold evalRead at h
 simp only at h
 split at h
 ·rename_i t x
  obtain ⟨v',h1,h2⟩:=evalLoad_sound (P:=P) hR h (hr x (by simp [Op.operands]))
  exact ⟨v',h2,by simp [execOp,h1]⟩
 ·rename_i s d x
  split at h
  ·rename_i u hu
   cases h
   obtain ⟨h1,h2⟩:=evalToString_sound hR hu (hr x (by simp [Op.operands]))
   exact ⟨v,h1,by simp [execOp,h2]⟩
  ·obtain ⟨h1,h2⟩:=evalPtrConv_sound hR h (hr x (by simp [Op.operands]))
   exact ⟨_,h1,by simp [execOp,h2]⟩
 ·rename_i t x ix ok
  obtain ⟨v',h1,h2⟩:=evalLookup_sound (P:=P) hR h (hr x (by simp [Op.operands])) (hr ix (by simp [Op.operands]))
  exact ⟨v',h1,by simp [execOp,h2]⟩
 ·rename_i x
  obtain ⟨v',h1,h2⟩:=evalEntry_sound (P:=P) hR h (hr x (by simp [Op.operands]))
  exact ⟨v',h1,by simp [execOp,h2]⟩
 ·rename_i x t
  obtain ⟨h1,h2⟩:=evalMapLen_sound (P:=P) (ty:=type) hR h (hr x (by simp [Op.operands,Call.operands]))
  exact ⟨v,h1,by simp [execOp,resolve,invoke,builtin,h2]⟩
 ·cases h
theorem ARel.append {a b c d:Array Value} (h:ARel G N φ a b) (k:ARel G N φ c d):ARel G N φ (a++c) (b++d):=by
 refine ⟨by simp [h.1,k.1],fun i v v' h1 h2=> ?_⟩
 rw [Array.getElem?_append] at h1 h2
 split at h1
 ·rename_i hi
  rw [if_pos (h.1▸hi)] at h2
  exact h.2 _ _ _ h1 h2
 ·rename_i hi
  rw [if_neg (h.1▸hi),← h.1] at h2
  exact k.2 _ _ _ h1 h2
theorem VRel.func_inv {fn:Fn} {f c:Array Value} {v':Value} (hk:fnOk fn=true) (h:VRel G N φ (.func fn f c) v'):∃ f' c',v'= .func fn f' c'∧ARel G N φ f f'∧ARel G N φ c c':=by
 cases h with
 | flat hf=>
  simp only [Go.Ev.flat,Bool.and_eq_true] at hf
  exact ⟨f,c,rfl,ARel.refl_flat hf.2.1,ARel.refl_flat hf.2.2⟩
 | func z a b d e=>exact ⟨_,_,rfl,⟨a,d⟩,⟨b,e⟩⟩
 | yield=>simp [fnOk] at hk
theorem VRel.yield_inv {l:Nat} {f c:Array Value} {v':Value} (h:VRel G N φ (.func (.yield l) f c) v'):v'= .func (.yield (φ l).block) #[] #[]:=by
 cases h with
 | flat hf=>simp [Go.Ev.flat,fnOk] at hf
 | func z=>simp [fnOk] at z
 | yield=>rfl
theorem ARel.flat_eq {a b:Array Value} (h:ARel G N φ a b) (hf:flatA a=true):b=a:=by
 apply Array.ext_getElem?
 intro i
 by_cases hi:i < a.size
 ·have h1:=Array.getElem?_eq_getElem hi
  have h2:=Array.getElem?_eq_getElem (h.1▸hi:i < b.size)
  rw [h1,h2,(h.2 i _ _ h1 h2).flat_eq (flatA_all hf h1)]
 ·have:=h.1
  rw [Array.getElem?_eq_none (by omega),Array.getElem?_eq_none (by omega)]
theorem Handle.rel {N b:Nat} {k:Handle} (hk:k.ok=true) (hG:G≤b) (hb:b < N):VRel G N φ (k.value ⟨b,0,none⟩) (k.value (φ.conc G b 0)):=by
 cases k with
 | ptr=>exact VRel.mk_ptr (.inr hb)
 | slice l c=>rw [← Phi.at_conc hG]; exact .slice hG hb (blt_true hk)
theorem evalLoud_sound {ro:Option Nat} {ext:Ext} {call:Caller} (hc:CallOk P G N0 g call) (hext:ExtOk P ext) (hR:R G N0 g φ st w) {o:Oper} {a:Act} {ρ:Operand→Value} {v:Value}
  (h:evalLoud P G g ext call st ρ o=some (v,st')) (hr:OpRel G st.next φ o ρ a.eval) {K:Act→World→Prop} {Q:Exit→Act→World→Prop}
  (hK:∀ v' w' φ',R G N0 g φ' st' w'→Tr φ st w φ' st' w'→VRel G st'.next φ' v v'→K (a.put o.dst v') w'):o.wpIn (Fw ro) 0 P a w K Q:=by
 obtain ⟨dst,op,type,pos,after,guard⟩:=o
 unfold OpRel at hr
 simp only at hr
 have allocCase:(match evalAlloc P ρ op with
   | some (l,e,k)=>if k.ok then some (k.value ⟨st.next,0,none⟩,st.newCells l e) else none
   | none=>none)=some (v,st')→Oper.wpIn (Fw ro) 0 P ⟨dst,op,type,pos,after,guard⟩ a w K Q:=by
  intro h
  split at h
  ·rename_i l e k hal
   split at h
   ·rename_i hk
    cases h
    obtain ⟨m,h1,h2⟩:=evalAlloc_sound (o:=⟨dst,op,type,pos,after,guard⟩) (ρ':=a.eval) hal hr
    obtain ⟨φ',k1,k2,k3⟩:=R.newCells (e:=e) hR h1
    refine wpIn_of (by intro c hc; simp only at hc; subst hc; simp [evalAlloc] at hal) (h2 w) (hK _ _ φ' k1 k2 ?_)
    rw [← k3 0]
    exact Handle.rel hk hR.base (Nat.lt_succ_self _)
   ·cases h
  ·cases h
 unfold evalLoud at h
 simp only at h
 split at h
 ·rename_i t x y
  split at h
  ·rename_i st₁ hst
   cases h
   obtain ⟨w',h1,h2,h3,h4⟩:=evalStore_sound (P:=P) hR hst (hr x (by simp [Op.operands])) (hr y (by simp [Op.operands]))
   refine wpIn_of (r:= .ok .skip w') (by intro c hc; cases hc) ?_ (hK undef w' φ h2 h3 (.flat rfl))
   simp only [execOp,Sem.run_bind,h1,Result.andThen_ok,Sem.run_pure]
  ·cases h
 ·rename_i f args ats
  split at h
  ·rename_i fid first cap hf
   have hfr:=hr f (by simp [Op.operands,Call.operands])
   rw [hf] at hfr
   obtain ⟨first',cap',he,hfirst,hcap⟩:=hfr.func_inv rfl
   have hargs:ARel G st.next φ (args.map ρ) (args.map a.eval):=ARel.map fun x hx=>hr x (by simp [Op.operands,Call.operands,hx])
   have hall:ARel G st.next φ ⟨first.toList++args.toList.map ρ++cap.toList⟩ (first'++args.map a.eval++cap'):=by
    have:=(hfirst.append hargs).append hcap
    have e:(⟨first.toList++args.toList.map ρ++cap.toList⟩:Array Value)=first++args.map ρ++cap:=by apply Array.ext'; simp
    rw [e]; exact this
   have hexec:∀ r,(callFunc fid (first'++args.map a.eval++cap')).run P w=r→(execOp a.eval ⟨dst,.call ⟨.value f,args,ats⟩,type,pos,after,guard⟩).run P w=r:=fun r hr'=>by
    rw [← hr']
    simp [execOp,resolve,he,Deferred.ofValue,invoke]
   unfold evalCallee at h
   split at h
   ·rename_i fn hfn
    split at h
    ·rename_i body hbody
     split at h
     ·cases h
     ·rename_i hname
      have hrun:(callFunc fid (first'++args.map a.eval++cap')).run P w= .ok (.enter fid (first'++args.map a.eval++cap')) w:=by
       unfold callFunc
       simp only [Sem.run_bind]
       show Result.andThen (.ok P w) _=_
       simp only [Result.andThen_ok,hfn,hbody]
       rw [if_neg hname]
       simp
      refine wpIn_of (by intro c hc; cases hc) (hexec _ hrun) ?_
      rw [Oper.uponIn_enter]
      refine ⟨fun h=>(by cases h),?_⟩
      refine CallsIn.mono (callsIn_wide.2 (hc.fn _ _ _ _ _ h φ w _ hR hall)) fun e w' hpost=> ?_
      obtain ⟨v',φ',rfl,p1,p2,p3⟩:=hpost
      exact hK v' w' φ' p1 p2 p3
    ·rename_i hbody
     split at h
     ·rename_i hx hext'
      split at h
      ·rename_i hflat
       split at h
       ·rename_i u hu
        cases h
        obtain ⟨q1,q2⟩:=hext.fn _ _ _ _ hext' hu
        have:first'++args.map a.eval++cap'=⟨first.toList++args.toList.map ρ++cap.toList⟩:=hall.flat_eq (by simpa [flatA] using hflat)
        exact wpIn_of (by intro c hc; cases hc) (hexec (.ok (.value v) w) (by rw [this]; exact q2 w)) (hK v w φ hR (Tr.refl _ _ _) (.flat q1))
       ·cases h
      ·cases h
     ·split at h
      ·rename_i hcl
       obtain ⟨v',w',φ',q1,q2,q3,q4⟩:=evalClone_sound (P:=P) hR h hall
       exact wpIn_of (by intro c hc; cases hc) (hexec (.ok (.value v') w') (by rw [hext.clone _ _ _ hcl,q1]; rfl)) (hK v' w' φ' q2 q3 q4)
      ·split at h
       ·rename_i hsame
        split at h
        case h_2=>cases h
        rename_i x hx
        cases h
        rw [hx] at hall
        have hsz:(first'++args.map a.eval++cap').size=1:=hall.1.symm
        generalize first'++args.map a.eval++cap'=all' at hall hsz hexec
        obtain ⟨y,rfl⟩:∃ y,all'=#[y]:=⟨all'[0],by
         apply Array.ext
         ·simpa using hsz
         ·intro i h1 h2
          have:i=0:=by simp at h2; omega
          subst this; rfl⟩
        exact wpIn_of (by intro c hc; cases hc) (hexec (.ok (.value y) w) (hext.same _ _ _ hsame)) (hK y w φ hR (Tr.refl _ _ _) (hall.2 0 _ _ rfl rfl))
       ·cases h
   ·cases h
  ·rename_i l hf
   have hfr:=hr f (by simp [Op.operands,Call.operands])
   rw [hf] at hfr
   have he:=hfr.yield_inv
   have hargs:ARel G st.next φ ⟨args.toList.map ρ⟩ (args.map a.eval):=by
    have:=ARel.map (G:=G) (N:=st.next) (φ:=φ) (ρ:=ρ) (ρ':=a.eval) (l:=args) fun x hx=>hr x (by simp [Op.operands,Call.operands,hx])
    have e:(⟨args.toList.map ρ⟩:Array Value)=args.map ρ:=by apply Array.ext'; simp
    rw [e]; exact this
   obtain ⟨fnr,tmps,asg,bod,h1,h2⟩:=hc.round _ _ _ _ _ h φ w _ hR hargs
   refine wpIn_of (r:= .ok (.round (φ l).block fnr tmps asg bod) w) (by intro c hc; cases hc) ?_ ?_
   ·rw [← h1]; simp [execOp,resolve,he,Deferred.ofValue,invoke]
   rw [Oper.uponIn_round]
   refine ⟨fun h=>(by cases h),?_⟩
   refine RoundIn.mono h2 fun e w' hpost=> ?_
   obtain ⟨v',φ',rfl,p1,p2,p3⟩:=hpost
   exact hK v' w' φ' p1 p2 p3
  ·cases h
 ·rename_i d s dT sT
  have:=evalCopy_sound (sT:=sT) (ty:=type) hR h (hr d (by simp [Op.operands,Call.operands])) (hr s (by simp [Op.operands,Call.operands]))
  exact Goes.wp this (by simp [execOp,resolve,invoke,builtin]) hK
 ·rename_i p n pT iT
  have:=evalUnsafeString_sound (iT:=iT) (ty:=type) hR h (hr p (by simp [Op.operands,Call.operands])) (hr n (by simp [Op.operands,Call.operands]))
  exact Goes.wp this (by simp [execOp,resolve,invoke,builtin]) hK
 ·rename_i s x sT xT
  have:=evalAppend_sound (ty:=type) hR h (hr s (by simp [Op.operands,Call.operands])) (hr x (by simp [Op.operands,Call.operands]))
  exact Goes.wp this (by simp [execOp,resolve,invoke,builtin]) hK
 ·rename_i s d x
  exact Goes.wp (evalToBytes_sound hR h (hr x (by simp [Op.operands]))) rfl hK
 ·rename_i t x k y
  split at h
  ·rename_i st₁ hst
   cases h
   obtain ⟨w',h1,h2,h3⟩:=evalMapSet_sound (P:=P) hR hst (hr x (by simp [Op.operands])) (hr k (by simp [Op.operands])) (hr y (by simp [Op.operands]))
   refine wpIn_of (r:= .ok .skip w') (by intro c hc; cases hc) ?_ (hK undef w' φ h2 h3 (.flat rfl))
   simp only [execOp,Sem.run_bind,h1,Result.andThen_ok,Sem.run_pure]
  ·cases h
 ·rename_i t x k y
  split at h
  ·rename_i st₁ hst
   cases h
   obtain ⟨w',h1,h2,h3⟩:=evalMapSet_sound (P:=P) hR hst (hr x (by simp [Op.operands])) (hr k (by simp [Op.operands])) (hr y (by simp [Op.operands]))
   refine wpIn_of (r:= .ok .skip w') (by intro c hc; cases hc) ?_ (hK undef w' φ h2 h3 (.flat rfl))
   simp only [execOp,Sem.run_bind,h1,Result.andThen_ok,Sem.run_pure]
  ·cases h
 ·rename_i t x
  exact Goes.wp (evalRange_sound hR h (hr x (by simp [Op.operands]))) rfl hK
 ·rename_i it isString
  exact Goes.wp (evalNext_sound (ty:=type) hR h (hr it (by simp [Op.operands]))) rfl hK
 ·rename_i t
  cases h
  have:=hR.new (o:= .map [] 0) (ob:= .map #[] 0) (l:=⟨w.heap.size,0,0⟩) (fams':=st.fams) rfl (fun _ f _ hf=>⟨f,hf,rfl,Nat.le_refl _⟩) (fun _ _ hf _=>hf)
   (fun φ' h1 h2=>⟨#[],by rw [h1,heap_alloc,if_pos rfl],rfl,fun i e e' he=>by simp at he⟩)
  have hrun:(execOp a.eval ⟨dst,.makeMap t none,type,pos,after,guard⟩).run P w= .ok (.value (.map (some w.heap.size))) (w.alloc (.map #[] 0)):=rfl
  refine wpIn_of (by intro c hc; cases hc) hrun (hK _ _ _ this.1 this.2 ?_)
  have hv:VRel G (st.next+1) (φ.upd st.next ⟨w.heap.size,0,0⟩) (.map (some st.next)) (.map (some ((φ.upd st.next ⟨w.heap.size,0,0⟩) st.next).block)):= .map hR.base (Nat.lt_succ_self _)
  rw [Phi.upd_at] at hv
  exact hv
 ·exact allocCase h
theorem spec_below (hR:R G N0 g φ st w) {f:FuncId} {args':Array Value} {v:Value} (hv:flat v=true) (h:Calls P f args' w fun e w'=>e= .returned v∧RowKit.Below w.heap.size w w') :
  Calls P f args' w fun e w'=>∃ v' φ',e= .returned v'∧R G N0 g φ' st w'∧Tr φ st w φ' st w'∧VRel G st.next φ' v v':=
 Calls.mono h fun _ _ hp=>⟨v,φ,hp.1,(hR.below hp.2).1,(hR.below hp.2).2,.flat hv⟩
end Go.Ev
