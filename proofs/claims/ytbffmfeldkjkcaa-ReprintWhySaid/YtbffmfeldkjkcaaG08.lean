/- Parts of the proof: ALab, Ty. -/
import Derived.Test.YtbffmfeldkjkcaaProg
import Derived.Test.YtbffmfeldkjkcaaG06
set_option linter.unusedSimpArgs false
set_option linter.unusedVariables false
set_option maxHeartbeats 0
section
namespace Go.AV
open Go Go.RowKit Go.Flow
section
variable{F:Fence}{n:Nat}{P:Program}{Q:Exit→Act→World→Prop}{a:Act}{w:World}
theorem zGt{b:Frame}{k:List Item}{cs:List Frame}{c:Code}:step P (lone (b.atR a (.code (.scope c)::k)) cs w)=.next (lone (b.atR a (.code c:: .inScope c::k)) cs w):=
 step_lone_go (by simp[stepG,stepG.exec,Frame.atR])
theorem zSR{b:Frame}{k:List Item}{cs:List Frame}{c:Code}:step P (lone (b.atR a (.inScope c::k)) cs w)=.next (lone (b.atR a k) cs w):=
 step_lone_go (by simp[stepG,stepG.exec,Frame.atR])
theorem zTF{c:Code}(hg:∀l a w,¬Q (.goto l) a w)(h:c.wpIn F n P Q a w):(Code.scope c).wpIn F n P Q a w:=by
 intro b k cs hro hb hr;have h0:(lone (b.atR a (.code (.scope c)::k)) cs w).fenced P F:=fenced_calm hb hr rfl
 obtain⟨e,a₁,w₁,hq,harr⟩:=h b (.inScope c::k) cs hro hb hr
 cases e with
 |normal=>exact⟨.normal,a₁,w₁,hq,.head h0 zGt (StepsIn.trans harr (.one (fenced_calm hb hr rfl) zSR))⟩
 | exit id=>
   have hx:exitTo id (.inScope c::k)=exitTo id k:=by simp[exitTo]
   exact⟨.exit id,a₁,w₁,hq,.of_steps (.one h0 zGt) (e:=.exit id) ⟨fun k' hk=>harr.1 k' (by rw[hx];exact hk),fun hr1 hk=>harr.2 hr1 (by rw[hx];exact hk)⟩⟩
 |goto l=>exact(hg l _ _ hq).elim
 |ret=>exact⟨_,a₁,w₁,hq,.of_steps (.one h0 zGt) (e:=.ret) harr⟩
 |panic ch=>exact⟨_,a₁,w₁,hq,.of_steps (.one h0 zGt) (e:=.panic ch) harr⟩
 |outgrown=>exact⟨_,a₁,w₁,hq,.of_steps (.one h0 zGt) (e:=.outgrown) harr⟩
end
section
variable{P:Program}{S:St}{Q:Exit→St→Prop}
theorem AWp.scope{c:Code}(hg:∀l S,¬Q (.goto l) S)(h:AWp P c Q S):AWp P (.scope c) Q S:=⟨fun b0 a w hR=>
 zTF (fun _ _ _ ⟨_,_,h⟩=>hg _ _ h) (h.get b0 a w hR)⟩
theorem AWp.label{l:Nat}(h:Q .normal S):AWp P (.label l) Q S:=⟨fun b0 a w hR=>wpIn_label ⟨S,hR,h⟩⟩
end
end Go.AV
end
section
namespace Go.Proofs.Ytbffmfeldkjkcaa
open Go.RowKit Go.Flow Go.AV
def zGz:List (TypeId×TD):= [(1,⟨.one,1,8,[.nilFunc]⟩),
 (2,⟨.one,1,8,[.int .i64 0]⟩),
 (3,⟨.one,1,8,[.int .i64 0]⟩),
 (4,⟨.one,1,1,[.bool false]⟩),
 (5,⟨.one,1,1,[.int .u8 0]⟩),
 (6,⟨.one,1,1,[.int .u8 0]⟩),
 (7,⟨.st [(0,1),(1,1),(2,1),(3,1)],4,24,[.int .i64 0,.int .i64 0,.bool false,.int .u8 0]⟩),
 (8,⟨.st [(0,1),(1,1),(2,1),(3,1)],4,24,[.int .i64 0,.int .i64 0,.bool false,.int .u8 0]⟩),
 (9,⟨.one,1,16,[.string ⟨#[]⟩]⟩),
 (10,⟨.one,1,16,[.string ⟨#[]⟩]⟩),
 (11,⟨.one,1,16,[.string ⟨#[]⟩]⟩),
 (12,⟨.one,1,8,[.int .u64 0]⟩),
 (13,⟨.st [(0,1),(1,1)],2,24,[.string ⟨#[]⟩,.int .u64 0]⟩),
 (14,⟨.st [(0,1),(1,1)],2,24,[.string ⟨#[]⟩,.int .u64 0]⟩),
 (15,⟨.one,1,8,[.pointer none]⟩),
 (16,⟨.one,1,8,[.pointer none]⟩),
 (17,⟨.one,1,8,[.pointer none]⟩),
 (18,⟨.st [(0,1)],1,8,[.pointer none]⟩),
 (19,⟨.st [(0,1)],1,8,[.pointer none]⟩),
 (20,⟨.one,1,16,[.nilIface]⟩),
 (21,⟨.one,1,4,[.int .i32 0]⟩),
 (22,⟨.sl 23,1,24,[.slice none 0 0]⟩),
 (23,⟨.sl 3,1,24,[.slice none 0 0]⟩),
 (24,⟨.arr 3 3,3,24,[.int .i64 0,.int .i64 0,.int .i64 0]⟩),
 (25,⟨.arr 2 3,2,16,[.int .i64 0,.int .i64 0]⟩),
 (26,⟨.st [(0,1),(1,1),(2,1),(3,3),(6,2)],8,112,[.slice none 0 0,.slice none 0 0,.slice none 0 0,.int .i64 0,.int .i64 0,.int .i64 0,.int .i64 0,.int .i64 0]⟩),
 (27,⟨.st [(0,1),(1,1),(2,1),(3,3),(6,2)],8,112,[.slice none 0 0,.slice none 0 0,.slice none 0 0,.int .i64 0,.int .i64 0,.int .i64 0,.int .i64 0,.int .i64 0]⟩),
 (28,⟨.one,1,8,[.nilFunc]⟩),
 (29,⟨.sl 83,1,24,[.slice none 0 0]⟩),
 (30,⟨.sl 31,1,24,[.slice none 0 0]⟩),
 (31,⟨.sl 60,1,24,[.slice none 0 0]⟩),
 (32,⟨.sl 62,1,24,[.slice none 0 0]⟩),
 (33,⟨.st [(0,1),(1,1),(2,1),(3,1),(4,1)],5,120,[.slice none 0 0,.slice none 0 0,.slice none 0 0,.slice none 0 0,.slice none 0 0]⟩),
 (34,⟨.st [(0,1),(1,1),(2,1),(3,1),(4,1)],5,120,[.slice none 0 0,.slice none 0 0,.slice none 0 0,.slice none 0 0,.slice none 0 0]⟩),
 (35,⟨.sl 64,1,24,[.slice none 0 0]⟩),
 (37,⟨.one,1,8,[.nilFunc]⟩),
 (38,⟨.one,1,8,[.nilFunc]⟩),
 (39,⟨.arr 2 34,10,240,[.slice none 0 0,.slice none 0 0,.slice none 0 0,.slice none 0 0,.slice none 0 0,.slice none 0 0,.slice none 0 0,.slice none 0 0,.slice none 0 0,.slice none 0 0]⟩),
 (40,⟨.one,1,8,[.nilFunc]⟩),
 (41,⟨.arr 2 35,2,48,[.slice none 0 0,.slice none 0 0]⟩),
 (42,⟨.arr 3 23,3,72,[.slice none 0 0,.slice none 0 0,.slice none 0 0]⟩),
 (43,⟨.one,1,8,[.int .i64 0]⟩),
 (45,⟨.one,1,8,[.nilFunc]⟩),
 (46,⟨.one,1,8,[.nilFunc]⟩),
 (47,⟨.one,1,8,[.nilFunc]⟩),
 (48,⟨.st [(0,1),(1,1),(2,1)],3,72,[.slice none 0 0,.slice none 0 0,.slice none 0 0]⟩),
 (49,⟨.st [(0,1),(1,1),(2,1)],3,72,[.slice none 0 0,.slice none 0 0,.slice none 0 0]⟩),
 (51,⟨.one,1,8,[.nilFunc]⟩),
 (52,⟨.one,1,8,[.nilFunc]⟩),
 (53,⟨.one,1,8,[.nilFunc]⟩),
 (54,⟨.one,1,8,[.nilFunc]⟩),
 (56,⟨.one,1,8,[.nilFunc]⟩),
 (57,⟨.one,1,8,[.nilFunc]⟩),
 (58,⟨.sl 4,1,24,[.slice none 0 0]⟩),
 (59,⟨.st [(0,1),(1,1),(2,1)],3,40,[.int .i64 0,.int .i64 0,.slice none 0 0]⟩),
 (60,⟨.st [(0,1),(1,1),(2,1)],3,40,[.int .i64 0,.int .i64 0,.slice none 0 0]⟩),
 (61,⟨.st [(0,1),(1,1),(2,1),(3,1)],4,32,[.int .i64 0,.int .i64 0,.int .i64 0,.int .i64 0]⟩),
 (62,⟨.st [(0,1),(1,1),(2,1),(3,1)],4,32,[.int .i64 0,.int .i64 0,.int .i64 0,.int .i64 0]⟩),
 (63,⟨.st [(0,3),(3,1),(4,4)],8,96,[.int .i64 0,.int .i64 0,.slice none 0 0,.slice none 0 0,.int .i64 0,.int .i64 0,.int .i64 0,.int .i64 0]⟩),
 (64,⟨.st [(0,3),(3,1),(4,4)],8,96,[.int .i64 0,.int .i64 0,.slice none 0 0,.slice none 0 0,.int .i64 0,.int .i64 0,.int .i64 0,.int .i64 0]⟩),
 (65,⟨.st [(0,1),(1,1),(2,1)],3,24,[.int .i64 0,.int .i64 0,.int .i64 0]⟩),
 (66,⟨.st [(0,1),(1,1),(2,1)],3,24,[.int .i64 0,.int .i64 0,.int .i64 0]⟩),
 (68,⟨.one,1,8,[.nilFunc]⟩),
 (69,⟨.sl 73,1,24,[.slice none 0 0]⟩),
 (71,⟨.one,1,8,[.nilFunc]⟩),
 (72,⟨.one,1,8,[.nilFunc]⟩),
 (73,⟨.sl 77,1,24,[.slice none 0 0]⟩),
 (74,⟨.one,1,8,[.nilFunc]⟩),
 (75,⟨.one,1,8,[.nilFunc]⟩),
 (76,⟨.st [(0,1),(1,1),(2,1),(3,1),(4,1),(5,3)],8,64,[.int .i64 0,.int .i64 0,.int .i64 0,.int .i64 0,.bool false,.int .i64 0,.int .i64 0,.int .i64 0]⟩),
 (77,⟨.st [(0,1),(1,1),(2,1),(3,1),(4,1),(5,3)],8,64,[.int .i64 0,.int .i64 0,.int .i64 0,.int .i64 0,.bool false,.int .i64 0,.int .i64 0,.int .i64 0]⟩),
 (78,⟨.one,1,8,[.nilFunc]⟩),
 (79,⟨.one,1,8,[.nilFunc]⟩),
 (80,⟨.one,1,8,[.nilFunc]⟩),
 (81,⟨.one,1,8,[.nilFunc]⟩),
 (82,⟨.st [(0,1),(1,1)],2,16,[.int .i64 0,.int .i64 0]⟩),
 (83,⟨.st [(0,1),(1,1)],2,16,[.int .i64 0,.int .i64 0]⟩),
 (84,⟨.one,1,8,[.nilFunc]⟩),
 (85,⟨.one,1,8,[.nilFunc]⟩),
 (86,⟨.one,1,8,[.nilFunc]⟩),
 (87,⟨.one,1,8,[.nilFunc]⟩),
 (88,⟨.one,1,8,[.nilFunc]⟩),
 (89,⟨.one,1,8,[.nilFunc]⟩),
 (90,⟨.one,1,8,[.nilFunc]⟩),
 (91,⟨.one,1,8,[.nilFunc]⟩),
 (92,⟨.one,1,8,[.nilFunc]⟩),
 (93,⟨.one,1,8,[.nilFunc]⟩),
 (94,⟨.one,1,8,[.nilFunc]⟩),
 (95,⟨.one,1,8,[.nilFunc]⟩),
 (96,⟨.one,1,8,[.nilFunc]⟩),
 (97,⟨.one,1,8,[.nilFunc]⟩),
 (98,⟨.one,1,8,[.nilFunc]⟩),
 (99,⟨.one,1,8,[.nilFunc]⟩),
 (100,⟨.one,1,8,[.nilFunc]⟩),
 (101,⟨.one,1,8,[.pointer none]⟩),
 (102,⟨.one,1,8,[.map none]⟩),
 (103,⟨.st [(0,5),(5,1),(6,1)],7,136,[.slice none 0 0,.slice none 0 0,.slice none 0 0,.slice none 0 0,.slice none 0 0,.map none,.int .i64 0]⟩),
 (104,⟨.st [(0,5),(5,1),(6,1)],7,136,[.slice none 0 0,.slice none 0 0,.slice none 0 0,.slice none 0 0,.slice none 0 0,.map none,.int .i64 0]⟩),
 (105,⟨.one,1,8,[.nilFunc]⟩),
 (106,⟨.one,1,8,[.nilFunc]⟩),
 (108,⟨.one,1,8,[.nilFunc]⟩),
 (110,⟨.one,1,8,[.nilFunc]⟩),
 (111,⟨.one,1,8,[.nilFunc]⟩),
 (113,⟨.one,1,8,[.nilFunc]⟩),
 (114,⟨.st [],0,0,[]⟩),
 (115,⟨.st [],0,0,[]⟩),
 (117,⟨.one,1,8,[.nilFunc]⟩),
 (118,⟨.one,1,8,[.pointer none]⟩),
 (119,⟨.st [(0,5),(5,1)],6,144,[.slice none 0 0,.slice none 0 0,.slice none 0 0,.slice none 0 0,.slice none 0 0,.slice none 0 0]⟩),
 (120,⟨.st [(0,5),(5,1)],6,144,[.slice none 0 0,.slice none 0 0,.slice none 0 0,.slice none 0 0,.slice none 0 0,.slice none 0 0]⟩),
 (121,⟨.one,1,8,[.nilFunc]⟩),
 (123,⟨.one,1,8,[.nilFunc]⟩),
 (124,⟨.one,1,8,[.pointer none]⟩),
 (125,⟨.st [(0,1),(1,1)],2,32,[.slice none 0 0,.int .i64 0]⟩),
 (126,⟨.st [(0,1),(1,1)],2,32,[.slice none 0 0,.int .i64 0]⟩),
 (127,⟨.one,1,8,[.nilFunc]⟩),
 (128,⟨.one,1,8,[.nilFunc]⟩),
 (129,⟨.one,1,8,[.nilFunc]⟩),
 (130,⟨.one,1,8,[.nilFunc]⟩),
 (131,⟨.one,1,8,[.nilFunc]⟩),
 (132,⟨.one,1,8,[.nilFunc]⟩),
 (133,⟨.one,1,8,[.nilFunc]⟩),
 (134,⟨.one,1,8,[.pointer none]⟩),
 (135,⟨.one,1,8,[.nilFunc]⟩),
 (136,⟨.one,1,8,[.nilFunc]⟩),
 (137,⟨.one,1,8,[.nilFunc]⟩),
 (138,⟨.one,1,8,[.nilFunc]⟩),
 (139,⟨.one,1,8,[.nilFunc]⟩),
 (140,⟨.one,1,8,[.nilFunc]⟩),
 (141,⟨.one,1,8,[.nilFunc]⟩),
 (142,⟨.one,1,8,[.nilFunc]⟩),
 (143,⟨.st [(0,3),(3,3),(6,4),(10,4)],14,144,[.int .i64 0,.int .i64 0,.slice none 0 0,.int .i64 0,.int .i64 0,.slice none 0 0,.int .i64 0,.int .i64 0,.int .i64 0,.int .i64 0,.int .i64 0,.int .i64 0,.int .i64 0,.int .i64 0]⟩),
 (144,⟨.st [(0,3),(3,3),(6,4),(10,4)],14,144,[.int .i64 0,.int .i64 0,.slice none 0 0,.int .i64 0,.int .i64 0,.slice none 0 0,.int .i64 0,.int .i64 0,.int .i64 0,.int .i64 0,.int .i64 0,.int .i64 0,.int .i64 0,.int .i64 0]⟩),
 (145,⟨.sl 148,1,24,[.slice none 0 0]⟩),
 (146,⟨.one,1,8,[.nilFunc]⟩),
 (147,⟨.st [(0,1),(1,1)],2,16,[.int .i64 0,.int .i64 0]⟩),
 (148,⟨.st [(0,1),(1,1)],2,16,[.int .i64 0,.int .i64 0]⟩),
 (149,⟨.one,1,8,[.nilFunc]⟩),
 (150,⟨.one,1,8,[.nilFunc]⟩),
 (151,⟨.one,1,8,[.nilFunc]⟩),
 (152,⟨.one,1,8,[.nilFunc]⟩),
 (154,⟨.one,1,8,[.nilFunc]⟩),
 (155,⟨.one,1,8,[.nilFunc]⟩),
 (156,⟨.one,1,8,[.nilFunc]⟩),
 (157,⟨.one,1,8,[.nilFunc]⟩),
 (158,⟨.one,1,8,[.nilFunc]⟩),
 (159,⟨.one,1,8,[.nilFunc]⟩),
 (160,⟨.st [(0,1),(1,1)],2,16,[.int .i64 0,.int .i64 0]⟩),
 (161,⟨.st [(0,1),(1,1)],2,16,[.int .i64 0,.int .i64 0]⟩),
 (162,⟨.one,1,8,[.nilFunc]⟩),
 (163,⟨.one,1,8,[.nilFunc]⟩),
 (164,⟨.one,1,8,[.nilFunc]⟩),
 (165,⟨.one,1,8,[.nilFunc]⟩),
 (166,⟨.sl 25,1,24,[.slice none 0 0]⟩),
 (167,⟨.one,1,8,[.nilFunc]⟩),
 (168,⟨.one,1,8,[.nilFunc]⟩),
 (169,⟨.one,1,8,[.nilFunc]⟩),
 (170,⟨.one,1,8,[.nilFunc]⟩),
 (171,⟨.one,1,8,[.nilFunc]⟩),
 (172,⟨.st [(0,2),(2,2)],4,32,[.int .i64 0,.int .i64 0,.int .i64 0,.int .i64 0]⟩),
 (173,⟨.st [(0,2),(2,2)],4,32,[.int .i64 0,.int .i64 0,.int .i64 0,.int .i64 0]⟩),
 (175,⟨.one,1,8,[.nilFunc]⟩),
 (176,⟨.one,1,8,[.nilFunc]⟩),
 (177,⟨.one,1,8,[.nilFunc]⟩),
 (178,⟨.st [(0,1),(1,1)],2,16,[.int .i64 0,.int .i64 0]⟩),
 (179,⟨.st [(0,1),(1,1)],2,16,[.int .i64 0,.int .i64 0]⟩),
 (180,⟨.one,1,8,[.nilFunc]⟩),
 (181,⟨.one,1,8,[.nilFunc]⟩),
 (182,⟨.one,1,8,[.nilFunc]⟩),
 (183,⟨.one,1,8,[.nilFunc]⟩),
 (184,⟨.one,1,8,[.nilFunc]⟩),
 (185,⟨.one,1,8,[.nilFunc]⟩),
 (186,⟨.one,1,8,[.nilFunc]⟩),
 (187,⟨.one,1,8,[.nilFunc]⟩),
 (188,⟨.one,1,8,[.int .u64 0]⟩),
 (189,⟨.one,1,8,[.nilFunc]⟩),
 (190,⟨.st [(0,1),(1,1),(2,1),(3,1)],4,40,[.pointer none,.pointer none,.pointer none,.string ⟨#[]⟩]⟩),
 (191,⟨.st [(0,1),(1,1),(2,1),(3,1)],4,40,[.pointer none,.pointer none,.pointer none,.string ⟨#[]⟩]⟩),
 (192,⟨.arr 0 16,0,0,[]⟩),
 (193,⟨.st [(0,0)],0,0,[]⟩),
 (194,⟨.st [(0,0)],0,0,[]⟩),
 (195,⟨.one,1,4,[.int .u32 0]⟩),
 (196,⟨.one,1,1,[.int .u8 0]⟩),
 (197,⟨.one,1,1,[.int .u8 0]⟩),
 (198,⟨.one,1,8,[.nilFunc]⟩),
 (199,⟨.one,1,8,[.pointer none]⟩),
 (200,⟨.one,1,4,[.int .i32 0]⟩),
 (201,⟨.one,1,4,[.int .i32 0]⟩),
 (202,⟨.st [(0,1),(1,1),(2,1),(3,1),(4,1),(5,1),(6,1),(7,1),(8,1),(9,1),(10,1)],11,48,[.int .u64 0,.int .u64 0,.int .u32 0,.int .u8 0,.int .u8 0,.int .u8 0,.int .u8 0,.nilFunc,.pointer none,.int .i32 0,.int .i32 0]⟩),
 (203,⟨.st [(0,1),(1,1),(2,1),(3,1),(4,1),(5,1),(6,1),(7,1),(8,1),(9,1),(10,1)],11,48,[.int .u64 0,.int .u64 0,.int .u32 0,.int .u8 0,.int .u8 0,.int .u8 0,.int .u8 0,.nilFunc,.pointer none,.int .i32 0,.int .i32 0]⟩),
 (204,⟨.one,1,8,[.pointer none]⟩)]
theorem zA:zAm Try.prog zGz=true:=by kernel_rfl
theorem zL:Try.prog.follows .mixedOrders=true:=by kernel_rfl
section
variable{P:Program}{ops:Array Oper}{rest:List Oper}{acc:List (List Nat×List Nat)}{S:St}{Q:List (List Nat×List Nat)→St→Prop}{dst:Option Tmp}{ty:TypeId}{pos:String}{after:Array Edge}{guard:Option (Nat×Bool)}
theorem kA{x:Operand}{y:AV}(hk:AList P ops rest (([],[])::acc) (S.eff dst ⟨y,[],[]⟩) Q)(hw:S.wants ops {dst,op:=.move x,type:=ty,pos,after,guard}=some true:=by exact rfl)(hd:dOk S.n dst=true:=by exact rfl)(hx:S.opd x=some y:=by exact rfl):AList P ops ({dst,op:=.move x,type:=ty,pos,after,guard}::rest) acc S Q:=AList.move hw hd hx hk
theorem kC{x:Operand}{y:AV}(hk:AList P ops rest (([],[])::acc) (S.eff dst ⟨y,[],[]⟩) Q)(hw:S.wants ops {dst,op:=.assign x,type:=ty,pos,after,guard}=some true:=by exact rfl)(hd:dOk S.n dst=true:=by exact rfl)(hx:S.opd x=some y:=by exact rfl):AList P ops ({dst,op:=.assign x,type:=ty,pos,after,guard}::rest) acc S Q:=AList.assign hw hd hx hk
theorem kD{s:TypeId}{x:Operand}{f id sz k j off size:Nat}{d:TD}{parts:List (Nat×Nat)}(hn:AList Try.prog ops rest (([],[])::acc) (S.eff dst ⟨.c (.pt id sz k (j+off)),[],[]⟩) Q)(hw:S.wants ops {dst,op:=.fieldAddr s x f,type:=ty,pos,after,guard}=some true:=by exact rfl)(hd:dOk S.n dst=true:=by exact rfl)(hx:S.opd x=some (.c (.pt id sz k j)):=by exact rfl)(ht:zB zGz s=some d:=by exact rfl)(hk:d.k=.st parts:=by exact rfl)(hp:parts[f]?=some (off,size):=by exact rfl)(hs:Nat.beq size 0=false:=by exact rfl):
  AList Try.prog ops ({dst,op:=.fieldAddr s x f,type:=ty,pos,after,guard}::rest) acc S Q:=zOT zA hw hd hx ht hk hp hs hn
theorem kE{t:TypeId}{x:Operand}{id sz k j:Nat}{B:AB}{d:TD}(hn:AList Try.prog ops rest (([id],[])::acc) (S.eff dst ⟨.c (B.F k j),[],[]⟩) Q)(hw:S.wants ops {dst,op:=.load t x,type:=ty,pos,after,guard}=some true:=by exact rfl)(hd:dOk S.n dst=true:=by exact rfl)(hx:S.opd x=some (.c (.pt id sz k j)):=by exact rfl)(hh:S.h id=some B:=by exact rfl)(hs:B.sz=sz:=by exact rfl)(ht:zB zGz t=some d:=by exact rfl)(hk:zDG d.k=true:=by exact rfl)(hkn:k<B.n:=by exact oM)(hj:j<B.sz:=by exact oM):
  AList Try.prog ops ({dst,op:=.load t x,type:=ty,pos,after,guard}::rest) acc S Q:=zHT zA hw hd hx hh hs ht hk hkn hj hn
theorem kF{t:TypeId}{x:Operand}{id sz k j:Nat}{B:AB}{d:TD}(hn:AList Try.prog ops rest (([id],[])::acc) (S.eff dst ⟨.ag (zAO (B.F k) j d.size),[],[]⟩) Q)(hw:S.wants ops {dst,op:=.load t x,type:=ty,pos,after,guard}=some true:=by exact rfl)(hd:dOk S.n dst=true:=by exact rfl)(hx:S.opd x=some (.c (.pt id sz k j)):=by exact rfl)(hh:S.h id=some B:=by exact rfl)(hs:B.sz=sz:=by exact rfl)(ht:zB zGz t=some d:=by exact rfl)(hk:zDF d.k=true:=by exact rfl)(hkn:k<B.n:=by exact oM)(hj:j+d.size≤B.sz:=by exact oM):
  AList Try.prog ops ({dst,op:=.load t x,type:=ty,pos,after,guard}::rest) acc S Q:=zOV zA hw hd hx hh hs ht hk hkn hj hn
theorem kI{t:TypeId}{x v:Operand}{id sz k j:Nat}{B:AB}{d:TD}{y:AV}{l:List CV}(hn:AList Try.prog ops rest (([id],[id])::acc) (S.eff none ⟨.tu [],[(id,some ⟨B.row,B.n,B.sz,B.ty,zAv B.F k j d.size l⟩)],[]⟩) Q)(hw:S.wants ops {dst:=none,op:=.store t x v,type:=ty,pos,after,guard}=some true:=by exact rfl)(hx:S.opd x=some (.c (.pt id sz k j)):=by exact rfl)(hv:S.opd v=some y:=by exact rfl)(hl:y.cells=some l:=by exact rfl)(hh:S.h id=some B:=by exact rfl)(hs:B.sz=sz:=by exact rfl)(ht:zB zGz t=some d:=by exact rfl)(hz:l.length=d.size:=by exact rfl)(hkn:k<B.n:=by exact oM)(hj:j+d.size≤B.sz:=by exact oM):
  AList Try.prog ops ({dst:=none,op:=.store t x v,type:=ty,pos,after,guard}::rest) acc S Q:=AList.store zA hw hx hv hl hh hs ht hz hkn hj hn
theorem lrw{P:Prop}(h:P:=by exact zAi rfl rfl (fun _ _ _ _=>⟨rfl,rfl⟩)):P:=h
theorem aR1{P:Prop}(h:P:=by exact ARets.one (x:=.c _) (ARes.tmp rfl rfl)):P:=h
theorem kT{P:Program}{Q:Exit→St→Prop}{S:St}{c:Operand}{b:Bool}{x y:Code}(h:AWp P x Q S)(hc:S.opd c=some (.c (.p (.bool b))):=by exact rfl)(hb:b=true:=by exact cnT):AWp P (.cond c x y) Q S:=zOZ hc hb h
theorem kU{P:Program}{Q:Exit→St→Prop}{S:St}{c:Operand}{b:Bool}{x y:Code}(h:AWp P y Q S)(hc:S.opd c=some (.c (.p (.bool b))):=by exact rfl)(hb:b=false:=by exact cnF):AWp P (.cond c x y) Q S:=zOY hc hb h
theorem uA:type_of% @AWp.seq:= @AWp.seq
theorem uB:type_of% @zOt:= @zOt
theorem uC:type_of% @AWp.block:= @AWp.block
theorem uD:type_of% @zMW:= @zMW
theorem uE:type_of% @zMX:= @zMX
theorem uF:type_of% @zMV:= @zMV
theorem uG:type_of% @AWp.skip:= @AWp.skip
theorem uH:type_of% @AWp.exit:= @AWp.exit
theorem rG{P:Program}{Q:Exit→St→Prop}{S:St}(id:Nat){l:List Oper}(h:AList P l.toArray l [] S (fun _ S'=>Q .normal S')):AWp P (.region id l.toArray false) Q S:=AWp.region h
theorem hSm{S:St}{ren:List (Nat×Option Nat)}{id o sz:Nat}{ty:TypeId}{F:Nat→Nat→CV}{l:List CV}(hr:zB ren id=some (some o):=by exact rfl)(hh:S.h o=some ⟨false,1,sz,ty,F⟩:=by exact rfl)(hc:zAO (F 0) 0 sz=l:=by exact rfl)(hi:l.all zM=true:=by exact rfl):HeapOk S ren id ⟨false,1,sz,ty,lF l⟩:=HeapOk.same hr hh hc hi
end
structure vF(p:Prop):Prop where
 o:p
structure vG(l:List Nat):Prop where
 o:True
def vH(ops:Array Oper)(Q:Exit→St→Prop)(f:List (List Nat×List Nat))(S:St):Prop:=zEP ops f=true∧Q .normal S
theorem vC{P:Program}{Q:Exit→St→Prop}{S:St}{ids:List Nat}(r:vG ids){id:Nat}{l:List Oper}(h:AList P l.toArray l [] S (fun _ S'=>Q .normal S'))(hm:ids.elem id=true:=by exact rfl):AWp P (.region id l.toArray false) Q S:=AWp.region h
theorem vD{Q:Exit→St→Prop}{S:St}{ids:List Nat}(r:vG ids){id:Nat}{l:List Oper}(h:AList Try.prog l.toArray l [] S (vH l.toArray Q))(hm:ids.elem id=true:=by exact rfl):AWp Try.prog (.region id l.toArray true) Q S:=AWp.draw zL h
theorem vE{P:Program}{Q:Exit→St→Prop}{S:St}{ops:Array Oper}{acc:List (List Nat×List Nat)}(k:Q .normal S)(h:zEP ops acc.reverse=true:=by kernel_rfl):AList P ops [] acc S (vH ops Q):=AList.nil ⟨h,k⟩
theorem wA{P:Program}{ops:Array Oper}{rest:List Oper}{acc:List (List Nat×List Nat)}{S:St}{Q:List (List Nat×List Nat)→St→Prop}{dst:Option Tmp}{op:Op}{ty:TypeId}{pos:String}{after:Array Edge}{g:Nat×Bool}(h:AList P ops (⟨dst,op,ty,pos,after,some g⟩::rest) acc S Q):AList P ops (⟨dst,op,ty,pos,after,some g⟩::rest) acc S Q:=h
theorem wP{P:Program}{Q:Exit→St→Prop}{S:St}{id:Nat}{l:Array Oper}(h:AWp P (.region id l false) Q S):AWp P (.region id l false) Q S:=h
theorem wQ{P:Program}{Q:Exit→St→Prop}{S:St}{id:Nat}{l:Array Oper}(h:AWp P (.region id l true) Q S):AWp P (.region id l true) Q S:=h
theorem wR{P:Program}{Q:Exit→St→Prop}{S:St}{c:Operand}{x y:Code}(h:AWp P (.cond c x y) Q S):AWp P (.cond c x y) Q S:=h
theorem wV{P:Program}{ops:Array Oper}{acc:List (List Nat×List Nat)}{S:St}{Q:Exit→St→Prop}(h:AList P ops [] acc S (vH ops Q)):AList P ops [] acc S (vH ops Q):=h
theorem vI{P:Program}{ops:Array Oper}{l:List Oper}{acc:List (List Nat×List Nat)}{S:St}{Q:List (List Nat×List Nat)→St→Prop}(h:AList P ops l acc S Q):AList P ops l acc S Q:=h
theorem vJ{P:Program}{Q:Exit→St→Prop}{S:St}{c:Code}(h:AWp P c Q S):AWp P c Q S:=h
theorem vT{P:Program}{ops:Array Oper}{rest:List Oper}{acc:List (List Nat×List Nat)}{S:St}{Q:List (List Nat×List Nat)→St→Prop}{dst:Option Tmp}{op:Op}{ty:TypeId}{pos:String}{after:Array Edge}{g:Nat×Bool}
 (hk:AList P ops rest (([],[])::acc) (S.eff dst ⟨.tu [],[],[]⟩) Q) (hw:S.wants ops ⟨dst,op,ty,pos,after,some g⟩=some false:=by exact rfl) (hd:dOk S.n dst=true:=by exact rfl):AList P ops (⟨dst,op,ty,pos,after,some g⟩::rest) acc S Q:=AList.skip hw hd hk
theorem vU{o:BinOp}{i j:Int}(h:zBr o i j=true:=by unfold zBr;simp only[decide_eq_true_eq,Bool.not_eq_true',decide_eq_false_iff_not];first|done|assumption):zBr o i j=true:=h
theorem vV{o:BinOp}{i j:Int}(h:zBr o i j=false:=by unfold zBr;simp only[decide_eq_false_iff_not,Bool.not_eq_false',decide_eq_true_eq];first|done|assumption):zBr o i j=false:=h
theorem vW{o:BinOp}{i j:Int}(h:zBr o i j=true:=by exact cmT):zBr o i j=true:=h
theorem vX{o:BinOp}{i j:Int}(h:zBr o i j=false:=by exact cmF):zBr o i j=false:=h
theorem vY{P:Program}{ops:Array Oper}{rest:List Oper}{acc:List (List Nat×List Nat)}{S:St}{Q:List (List Nat×List Nat)→St→Prop}{dst:Option Tmp}{ty xt yt:TypeId}{pos:String}{after:Array Edge}{guard:Option (Nat×Bool)}{o:BinOp}{x y:Operand}{k:IntKind}{i j:Int}{b:Bool}
 (hn:AList P ops rest (([],[])::acc) (S.eff dst ⟨.c (.p (.bool b)),[],[]⟩) Q) (hw:S.wants ops ⟨dst,.binOp o xt x y yt,ty,pos,after,guard⟩=some true:=by exact rfl) (hd:dOk S.n dst=true:=by exact rfl) (ho:zHn o=true:=by exact rfl) (hx:S.opd x=some (.c (.p (.int k i))):=by exact rfl) (hy:S.opd y=some (.c (.p (.int k j))):=by exact rfl)
 (hc:zBr o i j=b:=by first|exact vU|exact vV|exact vW|exact vX|exact rfl):AList P ops (⟨dst,.binOp o xt x y yt,ty,pos,after,guard⟩::rest) acc S Q:=zFI hw hd ho hx hy (hc▸hn)
theorem vK{P:Program}{ops:Array Oper}{rest:List Oper}{acc:List (List Nat×List Nat)}{S:St}{Q:List (List Nat×List Nat)→St→Prop}{dst:Option Tmp}{ty:TypeId}{pos:String}{after:Array Edge}{guard:Option (Nat×Bool)}{s:TypeId}{x:Operand}{f:Nat}(h:AList P ops (⟨dst,.fieldAddr s x f,ty,pos,after,guard⟩::rest) acc S Q):AList P ops (⟨dst,.fieldAddr s x f,ty,pos,after,guard⟩::rest) acc S Q:=h
theorem vL{P:Program}{ops:Array Oper}{rest:List Oper}{acc:List (List Nat×List Nat)}{S:St}{Q:List (List Nat×List Nat)→St→Prop}{dst:Option Tmp}{ty:TypeId}{pos:String}{after:Array Edge}{guard:Option (Nat×Bool)}{s:TypeId}{x:Operand}(h:AList P ops (⟨dst,.load s x,ty,pos,after,guard⟩::rest) acc S Q):AList P ops (⟨dst,.load s x,ty,pos,after,guard⟩::rest) acc S Q:=h
theorem vM{P:Program}{ops:Array Oper}{rest:List Oper}{acc:List (List Nat×List Nat)}{S:St}{Q:List (List Nat×List Nat)→St→Prop}{dst:Option Tmp}{ty:TypeId}{pos:String}{after:Array Edge}{guard:Option (Nat×Bool)}{o:BinOp}{s z:TypeId}{x y:Operand}(h:AList P ops (⟨dst,.binOp o s x y z,ty,pos,after,guard⟩::rest) acc S Q):AList P ops (⟨dst,.binOp o s x y z,ty,pos,after,guard⟩::rest) acc S Q:=h
theorem vN{P:Program}{ops:Array Oper}{rest:List Oper}{acc:List (List Nat×List Nat)}{S:St}{Q:List (List Nat×List Nat)→St→Prop}{dst:Option Tmp}{ty:TypeId}{pos:String}{after:Array Edge}{guard:Option (Nat×Bool)}{o:Builtin}{x:Array Operand}{y:Array TypeId}(h:AList P ops (⟨dst,.call ⟨.builtin o,x,y⟩,ty,pos,after,guard⟩::rest) acc S Q):AList P ops (⟨dst,.call ⟨.builtin o,x,y⟩,ty,pos,after,guard⟩::rest) acc S Q:=h
theorem vO{P:Program}{ops:Array Oper}{rest:List Oper}{acc:List (List Nat×List Nat)}{S:St}{Q:List (List Nat×List Nat)→St→Prop}{dst:Option Tmp}{ty:TypeId}{pos:String}{after:Array Edge}{guard:Option (Nat×Bool)}{s:TypeId}{x y:Operand}(h:AList P ops (⟨dst,.indexAddr s x y,ty,pos,after,guard⟩::rest) acc S Q):AList P ops (⟨dst,.indexAddr s x y,ty,pos,after,guard⟩::rest) acc S Q:=h
theorem vP{P:Program}{ops:Array Oper}{rest:List Oper}{acc:List (List Nat×List Nat)}{S:St}{Q:List (List Nat×List Nat)→St→Prop}{dst:Option Tmp}{ty:TypeId}{pos:String}{after:Array Edge}{guard:Option (Nat×Bool)}{x y z:Operand}(h:AList P ops (⟨dst,.pick x y z,ty,pos,after,guard⟩::rest) acc S Q):AList P ops (⟨dst,.pick x y z,ty,pos,after,guard⟩::rest) acc S Q:=h
theorem vQ{P:Program}{ops:Array Oper}{rest:List Oper}{acc:List (List Nat×List Nat)}{S:St}{Q:List (List Nat×List Nat)→St→Prop}{dst:Option Tmp}{ty:TypeId}{pos:String}{after:Array Edge}{guard:Option (Nat×Bool)}{o:UnOp}{s:TypeId}{x:Operand}(h:AList P ops (⟨dst,.unOp o s x,ty,pos,after,guard⟩::rest) acc S Q):AList P ops (⟨dst,.unOp o s x,ty,pos,after,guard⟩::rest) acc S Q:=h
theorem vR{P:Program}{ops:Array Oper}{rest:List Oper}{acc:List (List Nat×List Nat)}{S:St}{Q:List (List Nat×List Nat)→St→Prop}{dst:Option Tmp}{ty:TypeId}{pos:String}{after:Array Edge}{guard:Option (Nat×Bool)}{s:TypeId}{n:Nat}{x:Array (Nat×Operand)}(h:AList P ops (⟨dst,.buildSlice s n x,ty,pos,after,guard⟩::rest) acc S Q):AList P ops (⟨dst,.buildSlice s n x,ty,pos,after,guard⟩::rest) acc S Q:=h
theorem vS{P:Program}{ops:Array Oper}{rest:List Oper}{acc:List (List Nat×List Nat)}{S:St}{Q:List (List Nat×List Nat)→St→Prop}{dst:Option Tmp}{ty:TypeId}{pos:String}{after:Array Edge}{guard:Option (Nat×Bool)}{s:TypeId}{x:Array (Nat×Operand)}(h:AList P ops (⟨dst,.build s x,ty,pos,after,guard⟩::rest) acc S Q):AList P ops (⟨dst,.build s x,ty,pos,after,guard⟩::rest) acc S Q:=h
theorem wB{P:Program}{ops:Array Oper}{rest:List Oper}{acc:List (List Nat×List Nat)}{S:St}{Q:List (List Nat×List Nat)→St→Prop}{dst:Option Tmp}{ty:TypeId}{pos:String}{after:Array Edge}{guard:Option (Nat×Bool)}{x:Operand}(h:AList P ops (⟨dst,.move x,ty,pos,after,guard⟩::rest) acc S Q):AList P ops (⟨dst,.move x,ty,pos,after,guard⟩::rest) acc S Q:=h
theorem wE{P:Program}{ops:Array Oper}{rest:List Oper}{acc:List (List Nat×List Nat)}{S:St}{Q:List (List Nat×List Nat)→St→Prop}{dst:Option Tmp}{ty:TypeId}{pos:String}{after:Array Edge}{guard:Option (Nat×Bool)}{x:Operand}(h:AList P ops (⟨dst,.assign x,ty,pos,after,guard⟩::rest) acc S Q):AList P ops (⟨dst,.assign x,ty,pos,after,guard⟩::rest) acc S Q:=h
theorem wF{P:Program}{ops:Array Oper}{rest:List Oper}{acc:List (List Nat×List Nat)}{S:St}{Q:List (List Nat×List Nat)→St→Prop}{dst:Option Tmp}{ty:TypeId}{pos:String}{after:Array Edge}{guard:Option (Nat×Bool)}{s z:TypeId}{x y:Operand}(h:AList P ops (⟨dst,.binOp .add s x y z,ty,pos,after,guard⟩::rest) acc S Q):AList P ops (⟨dst,.binOp .add s x y z,ty,pos,after,guard⟩::rest) acc S Q:=h
theorem wG{P:Program}{ops:Array Oper}{rest:List Oper}{acc:List (List Nat×List Nat)}{S:St}{Q:List (List Nat×List Nat)→St→Prop}{dst:Option Tmp}{ty:TypeId}{pos:String}{after:Array Edge}{guard:Option (Nat×Bool)}{s z:TypeId}{x y:Operand}(h:AList P ops (⟨dst,.binOp .sub s x y z,ty,pos,after,guard⟩::rest) acc S Q):AList P ops (⟨dst,.binOp .sub s x y z,ty,pos,after,guard⟩::rest) acc S Q:=h
theorem wH{P:Program}{ops:Array Oper}{rest:List Oper}{acc:List (List Nat×List Nat)}{S:St}{Q:List (List Nat×List Nat)→St→Prop}{dst:Option Tmp}{ty:TypeId}{pos:String}{after:Array Edge}{guard:Option (Nat×Bool)}{s z:TypeId}{x y:Operand}(h:AList P ops (⟨dst,.binOp .mul s x y z,ty,pos,after,guard⟩::rest) acc S Q):AList P ops (⟨dst,.binOp .mul s x y z,ty,pos,after,guard⟩::rest) acc S Q:=h
theorem wI{P:Program}{ops:Array Oper}{rest:List Oper}{acc:List (List Nat×List Nat)}{S:St}{Q:List (List Nat×List Nat)→St→Prop}{dst:Option Tmp}{ty:TypeId}{pos:String}{after:Array Edge}{guard:Option (Nat×Bool)}{s z:TypeId}{x y:Operand}(h:AList P ops (⟨dst,.binOp .quo s x y z,ty,pos,after,guard⟩::rest) acc S Q):AList P ops (⟨dst,.binOp .quo s x y z,ty,pos,after,guard⟩::rest) acc S Q:=h
theorem wJ{P:Program}{ops:Array Oper}{rest:List Oper}{acc:List (List Nat×List Nat)}{S:St}{Q:List (List Nat×List Nat)→St→Prop}{dst:Option Tmp}{ty:TypeId}{pos:String}{after:Array Edge}{guard:Option (Nat×Bool)}{s z:TypeId}{x y:Operand}(h:AList P ops (⟨dst,.binOp .rem s x y z,ty,pos,after,guard⟩::rest) acc S Q):AList P ops (⟨dst,.binOp .rem s x y z,ty,pos,after,guard⟩::rest) acc S Q:=h
theorem wK{P:Program}{ops:Array Oper}{rest:List Oper}{acc:List (List Nat×List Nat)}{S:St}{Q:List (List Nat×List Nat)→St→Prop}{dst:Option Tmp}{ty:TypeId}{pos:String}{after:Array Edge}{guard:Option (Nat×Bool)}{s:TypeId}{x y:Operand}(h:AList P ops (⟨dst,.store s x y,ty,pos,after,guard⟩::rest) acc S Q):AList P ops (⟨dst,.store s x y,ty,pos,after,guard⟩::rest) acc S Q:=h
theorem wL{P:Program}{ops:Array Oper}{rest:List Oper}{acc:List (List Nat×List Nat)}{S:St}{Q:List (List Nat×List Nat)→St→Prop}{dst:Option Tmp}{ty:TypeId}{pos:String}{after:Array Edge}{guard:Option (Nat×Bool)}{s:TypeId}{x:Operand}(h:AList P ops (⟨dst,.box s x,ty,pos,after,guard⟩::rest) acc S Q):AList P ops (⟨dst,.box s x,ty,pos,after,guard⟩::rest) acc S Q:=h
theorem wM{P:Program}{ops:Array Oper}{rest:List Oper}{acc:List (List Nat×List Nat)}{S:St}{Q:List (List Nat×List Nat)→St→Prop}{dst:Option Tmp}{ty:TypeId}{pos:String}{after:Array Edge}{guard:Option (Nat×Bool)}{s:TypeId}(h:AList P ops (⟨dst,.alloc s,ty,pos,after,guard⟩::rest) acc S Q):AList P ops (⟨dst,.alloc s,ty,pos,after,guard⟩::rest) acc S Q:=h
theorem wN{P:Program}{ops:Array Oper}{rest:List Oper}{acc:List (List Nat×List Nat)}{S:St}{Q:List (List Nat×List Nat)→St→Prop}{dst:Option Tmp}{ty:TypeId}{pos:String}{after:Array Edge}{guard:Option (Nat×Bool)}{x:Operand}{i:Nat}(h:AList P ops (⟨dst,.extract x i,ty,pos,after,guard⟩::rest) acc S Q):AList P ops (⟨dst,.extract x i,ty,pos,after,guard⟩::rest) acc S Q:=h
theorem wO{P:Program}{ops:Array Oper}{rest:List Oper}{acc:List (List Nat×List Nat)}{S:St}{Q:List (List Nat×List Nat)→St→Prop}{dst:Option Tmp}{ty:TypeId}{pos:String}{after:Array Edge}{guard:Option (Nat×Bool)}{x:Operand}(h:AList P ops (⟨dst,.nilCheck x,ty,pos,after,guard⟩::rest) acc S Q):AList P ops (⟨dst,.nilCheck x,ty,pos,after,guard⟩::rest) acc S Q:=h
theorem vA{G H:Prop}(k:H)(f:vF H→G:=by intro h;(first|(refine wA ?_;refine vT ?_)|(refine wB ?_;refine kA ?_)|(refine wE ?_;refine kC ?_)|(refine vK ?_;first|refine kD ?_|refine qr7 (zKt zA) ?_)|(refine vL ?_;first|refine kE ?_|refine kF ?_|refine zHE (aV zA) ?_|refine zHE (aT zA) ?_)|(refine vM ?_;first|(refine wF ?_;refine zDr aL ?_)|(refine wG ?_;refine zDr AList.sub ?_)|(refine wH ?_;refine zDr AList.mul ?_)|(refine wI ?_;refine zEb AList.quo ?_)|(refine wJ ?_;refine zDr AList.rem ?_)|refine vY ?_|refine zHD zKr ?_|refine zHD zKF ?_)|(refine wK ?_;refine kI ?_)|(refine wL ?_;refine qr5 aQ ?_)|(refine vN ?_;first|refine qr5 (aO zA) ?_|refine qr7 (zKz zA) ?_|refine qr5 (zKx zA) ?_|refine qr4 zKC ?_|refine qr4 zKD ?_)|(refine wM ?_;refine qr5 (aM zA) ?_)|(refine wN ?_;refine qr4 aN ?_)|(refine vO ?_;first|refine zNG (aP zA) ?_|refine zH zA rfl rfl rfl rfl rfl rfl rfl rfl rfl rfl rfl oM ?_|refine zBL (aU zA) ?_)|(refine vP ?_;first|refine qr4 aS ?_|refine qr4 aR ?_|refine qr5 AList.pick ?_)|(refine vQ ?_;first|refine qr3 zKH ?_|refine zNF AList.neg ?_)|(refine wO ?_;refine zKG rfl rfl rfl rfl ?_)|(refine vR ?_;first|refine zJB (zKA zA) ?_|refine qr7 (zKq zA) ?_)|(refine vS ?_;first|refine qr8 (aX zA) ?_|refine qr8 (zKj zA) ?_));exact h.1):G:=f ⟨k⟩
theorem vB(l:List Nat){G H:Prop}(k:H)(f:vG l→vF H→G:=by intro r h;(repeat1' (first|(refine vI ?_;first|(refine wV ?_;refine vE ?_)|refine aB ?_|(refine wA ?_;refine vT ?_)|(refine wB ?_;refine kA ?_)|(refine wE ?_;refine kC ?_)|(refine vK ?_;first|refine kD ?_|refine qr7 (zKt zA) ?_)|(refine vL ?_;first|refine kE ?_|refine kF ?_|refine zHE (aV zA) ?_|refine zHE (aT zA) ?_)|(refine vM ?_;first|(refine wF ?_;refine zDr aL ?_)|(refine wG ?_;refine zDr AList.sub ?_)|(refine wH ?_;refine zDr AList.mul ?_)|(refine wI ?_;refine zEb AList.quo ?_)|(refine wJ ?_;refine zDr AList.rem ?_)|refine vY ?_|refine zHD zKr ?_|refine zHD zKF ?_)|(refine wK ?_;refine kI ?_)|(refine wL ?_;refine qr5 aQ ?_)|(refine vN ?_;first|refine qr5 (aO zA) ?_|refine qr7 (zKz zA) ?_|refine qr5 (zKx zA) ?_|refine qr4 zKC ?_|refine qr4 zKD ?_)|(refine wM ?_;refine qr5 (aM zA) ?_)|(refine wN ?_;refine qr4 aN ?_)|(refine vO ?_;first|refine zNG (aP zA) ?_|refine zH zA rfl rfl rfl rfl rfl rfl rfl rfl rfl rfl rfl oM ?_|refine zBL (aU zA) ?_)|(refine vP ?_;first|refine qr4 aS ?_|refine qr4 aR ?_|refine qr5 AList.pick ?_)|(refine vQ ?_;first|refine qr3 zKH ?_|refine zNF AList.neg ?_)|(refine wO ?_;refine zKG rfl rfl rfl rfl ?_)|(refine vR ?_;first|refine zJB (zKA zA) ?_|refine qr7 (zKq zA) ?_)|(refine vS ?_;first|refine qr8 (aX zA) ?_|refine qr8 (zKj zA) ?_))|(refine vJ ?_;first|refine uA ?_|(refine wP ?_;refine vC r ?_)|(refine wQ ?_;refine vD r ?_)|refine uC ?_|refine uG ?_|(refine wR ?_;first|refine kT ?_|refine kU ?_)|refine uH ?_|refine AWp.ret ?_|refine AWp.scope (fun _ _ h=>h) ?_|refine AWp.label ?_)|refine uB ?_|refine zTc ?_|refine zTd ?_|refine uD ?_|refine uE ?_|refine uF ?_|refine zRa rfl ?_));exact h.1):G:=f ⟨trivial⟩ ⟨k⟩
theorem xA{G H:Prop}(k:H)(f:vF H→G:=by intro h;(first|refine zBb zA rfl rfl rfl rfl rfl rfl rfl rfl rfl rfl oM oM ?_|refine zCt zA rfl rfl rfl rfl rfl rfl rfl rfl rfl rfl oM oM ?_|refine zOR zA rfl rfl rfl rfl rfl rfl rfl rfl rfl oM oM ?_|refine zKi zA rfl rfl rfl rfl rfl rfl rfl rfl rfl rfl rfl oM oM ?_|refine zKg zA rfl rfl rfl rfl rfl rfl rfl rfl rfl rfl oM oM ?_);exact h.1):G:=f ⟨k⟩
theorem xB{A B G H:Prop}(e:A)(c:B)(k:H)(f:vF A→vF B→vF H→G:=by intro e c h;refine aH rfl rfl rfl rfl e.1 rfl (by kernel_rfl) (c.1) ?_;exact h.1):G:=f ⟨e⟩ ⟨c⟩ ⟨k⟩
theorem xC{α:Sort _}{a b:α}(h:a=b:=by kernel_rfl):a=b:=h
theorem xD{p:Prop}(h:p:=by omega):p:=h
theorem xE2{G H:Prop}(k:H)(f:vF H→G:=by intro h;(iterate 2 refine vA ?_);exact h.1):G:=f ⟨k⟩
theorem xE3{G H:Prop}(k:H)(f:vF H→G:=by intro h;(iterate 3 refine vA ?_);exact h.1):G:=f ⟨k⟩
theorem xE4{G H:Prop}(k:H)(f:vF H→G:=by intro h;(iterate 4 refine vA ?_);exact h.1):G:=f ⟨k⟩
theorem xE5{G H:Prop}(k:H)(f:vF H→G:=by intro h;(iterate 5 refine vA ?_);exact h.1):G:=f ⟨k⟩
theorem xE6{G H:Prop}(k:H)(f:vF H→G:=by intro h;(iterate 6 refine vA ?_);exact h.1):G:=f ⟨k⟩
theorem xE7{G H:Prop}(k:H)(f:vF H→G:=by intro h;(iterate 7 refine vA ?_);exact h.1):G:=f ⟨k⟩
theorem xE8{G H:Prop}(k:H)(f:vF H→G:=by intro h;(iterate 8 refine vA ?_);exact h.1):G:=f ⟨k⟩
theorem xE9{G H:Prop}(k:H)(f:vF H→G:=by intro h;(iterate 9 refine vA ?_);exact h.1):G:=f ⟨k⟩
theorem zCs{G H:Prop}(k:H)(f:vF H→G:=by intro h;(iterate 10 refine vA ?_);exact h.1):G:=f ⟨k⟩
theorem zCf{G H:Prop}(k:H)(f:vF H→G:=by intro h;(iterate 11 refine vA ?_);exact h.1):G:=f ⟨k⟩
theorem zFE{G H:Prop}(k:H)(f:vF H→G:=by intro h;(iterate 12 refine vA ?_);exact h.1):G:=f ⟨k⟩
theorem zTO{G H:Prop}(k:H)(f:vF H→G:=by intro h;(iterate 13 refine vA ?_);exact h.1):G:=f ⟨k⟩
theorem zOM{G H:Prop}(k:H)(f:vF H→G:=by intro h;(iterate 14 refine vA ?_);exact h.1):G:=f ⟨k⟩
theorem zTP{G H:Prop}(k:H)(f:vF H→G:=by intro h;(iterate 15 refine vA ?_);exact h.1):G:=f ⟨k⟩
theorem zKf{G H:Prop}(k:H)(f:vF H→G:=by intro h;(iterate 16 refine vA ?_);exact h.1):G:=f ⟨k⟩
end Go.Proofs.Ytbffmfeldkjkcaa
end
