/- How what comes in is read, kind by kind. No condition. -/
import Derived.Test.YtadllpehekphmaaDoorK
import Derived.Test.YtadllpehekphmaaDoorS
set_option linter.unusedSimpArgs false
set_option linter.unusedVariables false
set_option maxRecDepth 20000
namespace Go.Vid
open Go.Vabs
def Latch.Wf (x:Latch):Prop:=(Fits .i64) x.next∧(Fits .i64) x.reset∧True
def And.Wf (x:And):Prop:=(Fits .i64) x.a∧(Fits .i64) x.b∧True
def Name.Wf (x:Name):Prop:=(Fits .u8) x.kind∧(Fits .i64) x.pos∧(FitsS) x.s∧True
def Aig.Wf (x:Aig):Prop:=(Fits .i64) x.I∧(FitsL 16 (Latch.Wf)) x.L∧(FitsL 16 (And.Wf)) x.G∧(FitsL 8 (Fits .i64)) x.outs∧(FitsL 8 (Fits .i64)) x.bad∧(FitsL 8 (Fits .i64)) x.con∧(FitsL 32 (Name.Wf)) x.names∧True
end Go.Vid
namespace Go.Proofs.YtadllpehekphmaaDoor
open Go.Vabs Go.Vid
theorem rd3 {H:Type}{enc:TypeId × Value→H}{W:World}:Reads enc Tryd.prog W 3 Int (fun x=>[.lit (.int .i64 x)]) (Fits .i64):=rd_int (by kernel_rfl)
set_option maxRecDepth 100000 in
theorem rd47 {H:Type}{enc:TypeId × Value→H}{W:World}:Reads enc Tryd.prog W 47 Latch Latch.cells Latch.Wf:=by
 have hf:ReadsF enc Tryd.prog W 0 row47.size row47.fields ((Int) × (Int) × Unit) _ _:=(readsF_cons (y:=row3) ((tyOk3).trans ty3) rd3 (readsF_cons (y:=row3) ((tyOk3).trans ty3) rd3 readsF_nil));exact (reads_struct (y:=row47) ((tyOk47).trans ty47) rfl hf).as (fun p=>(⟨p.1,p.2.1⟩:Latch)) (fun p=>by first | rfl | simp[Latch.cells]) (fun _ h=>h)
theorem rd22 {H:Type}{enc:TypeId × Value→H}{W:World}:Reads enc Tryd.prog W 22 (List (Latch)) (fun l=>[sls 2 Latch.cells l]) (FitsL 16 (Latch.Wf)):=rd_slice (y:=row22) (z:=row47) (cells:=Latch.cells) ((tyOk22).trans ty22) rfl ((tyOk47).trans ty47) (by decide) rd47 (fun _=>rfl)
set_option maxRecDepth 100000 in
theorem rd53 {H:Type}{enc:TypeId × Value→H}{W:World}:Reads enc Tryd.prog W 53 And And.cells And.Wf:=by
 have hf:ReadsF enc Tryd.prog W 0 row53.size row53.fields ((Int) × (Int) × Unit) _ _:=(readsF_cons (y:=row3) ((tyOk3).trans ty3) rd3 (readsF_cons (y:=row3) ((tyOk3).trans ty3) rd3 readsF_nil));exact (reads_struct (y:=row53) ((tyOk53).trans ty53) rfl hf).as (fun p=>(⟨p.1,p.2.1⟩:And)) (fun p=>by first | rfl | simp[And.cells]) (fun _ h=>h)
theorem rd23 {H:Type}{enc:TypeId × Value→H}{W:World}:Reads enc Tryd.prog W 23 (List (And)) (fun l=>[sls 2 And.cells l]) (FitsL 16 (And.Wf)):=rd_slice (y:=row23) (z:=row53) (cells:=And.cells) ((tyOk23).trans ty23) rfl ((tyOk53).trans ty53) (by decide) rd53 (fun _=>rfl)
theorem rd24 {H:Type}{enc:TypeId × Value→H}{W:World}:Reads enc Tryd.prog W 24 (List (Int)) (fun l=>[sls 1 intF l]) (FitsL 8 (Fits .i64)):=rd_slice (y:=row24) (z:=row3) (cells:=intF) ((tyOk24).trans ty24) rfl ((tyOk3).trans ty3) (by decide) rd3 (fun _=>rfl)
theorem rd5 {H:Type}{enc:TypeId × Value→H}{W:World}:Reads enc Tryd.prog W 5 Int (fun x=>[.lit (.int .u8 x)]) (Fits .u8):=rd_int (by kernel_rfl)
theorem rd9 {H:Type}{enc:TypeId × Value→H}{W:World}:Reads enc Tryd.prog W 9 ByteArray (fun x=>[.lit (.string x)]) FitsS:=rd_str (by kernel_rfl)
set_option maxRecDepth 100000 in
theorem rd49 {H:Type}{enc:TypeId × Value→H}{W:World}:Reads enc Tryd.prog W 49 Name Name.cells Name.Wf:=by
 have hf:ReadsF enc Tryd.prog W 0 row49.size row49.fields ((Int) × (Int) × (ByteArray) × Unit) _ _:=(readsF_cons (y:=row5) ((tyOk5).trans ty5) rd5 (readsF_cons (y:=row3) ((tyOk3).trans ty3) rd3 (readsF_cons (y:=row9) ((tyOk9).trans ty9) rd9 readsF_nil)));exact (reads_struct (y:=row49) ((tyOk49).trans ty49) rfl hf).as (fun p=>(⟨p.1,p.2.1,p.2.2.1⟩:Name)) (fun p=>by first | rfl | simp[Name.cells]) (fun _ h=>h)
theorem rd25 {H:Type}{enc:TypeId × Value→H}{W:World}:Reads enc Tryd.prog W 25 (List (Name)) (fun l=>[sls 3 Name.cells l]) (FitsL 32 (Name.Wf)):=rd_slice (y:=row25) (z:=row49) (cells:=Name.cells) ((tyOk25).trans ty25) rfl ((tyOk49).trans ty49) (by decide) rd49 (fun _=>rfl)
set_option maxRecDepth 100000 in
theorem rd27 {H:Type}{enc:TypeId × Value→H}{W:World}:Reads enc Tryd.prog W 27 Aig Aig.cells Aig.Wf:=by
 have hf:ReadsF enc Tryd.prog W 0 row27.size row27.fields ((Int) × (List (Latch)) × (List (And)) × (List (Int)) × (List (Int)) × (List (Int)) × (List (Name)) × Unit) _ _:=(readsF_cons (y:=row3) ((tyOk3).trans ty3) rd3 (readsF_cons (y:=row22) ((tyOk22).trans ty22) rd22 (readsF_cons (y:=row23) ((tyOk23).trans ty23) rd23 (readsF_cons (y:=row24) ((tyOk24).trans ty24) rd24 (readsF_cons (y:=row24) ((tyOk24).trans ty24) rd24 (readsF_cons (y:=row24) ((tyOk24).trans ty24) rd24 (readsF_cons (y:=row25) ((tyOk25).trans ty25) rd25 readsF_nil)))))));exact (reads_struct (y:=row27) ((tyOk27).trans ty27) rfl hf).as (fun p=>(⟨p.1,p.2.1,p.2.2.1,p.2.2.2.1,p.2.2.2.2.1,p.2.2.2.2.2.1,p.2.2.2.2.2.2.1⟩:Aig)) (fun p=>by first | rfl | simp[Aig.cells]) (fun _ h=>h)
theorem rd42 {H:Type}{enc:TypeId × Value→H}{W:World}:Reads enc Tryd.prog W 42 (List (Int)) (fun l=>[sls 1 byteF l]) (FitsL 1 (Fits .u8)):=rd_slice (y:=row42) (z:=row5) (cells:=byteF) ((tyOk42).trans ty42) rfl ((tyOk5).trans ty5) (by decide) rd5 (fun _=>rfl)
theorem rd44 {H:Type}{enc:TypeId × Value→H}{W:World}:Reads enc Tryd.prog W 44 Int (fun x=>[.lit (.int .u16 x)]) (Fits .u16):=rd_int (by kernel_rfl)
end Go.Proofs.YtadllpehekphmaaDoor
