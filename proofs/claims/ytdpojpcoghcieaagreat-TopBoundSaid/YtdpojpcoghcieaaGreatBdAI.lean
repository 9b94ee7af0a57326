/- A part of the proof of TopBound: SiTab, SiTypes, SiOrc. Conditions: none. -/
import Derived.KernelRfl
import Derived.Test.YtdpojpcoghcieaaGreatBdAH
import Derived.Test.YtdpojpcoghcieaaGreatChecked
set_option maxHeartbeats 8000000
namespace Go.Proofs.YtdpojpcoghcieaaGreat.Si
open Go.RowKit
def siT:TT:=[
 (2,⟨1,8,[.int .i64 0],false,.int .i64⟩),
 (3,⟨1,8,[.int .i64 0],false,.int .i64⟩),
 (4,⟨1,1,[.bool false],false,.bool⟩),
 (22,⟨1,24,[.snil],false,.slice 3⟩),
 (24,⟨12,112,[.snil,.int .i64 0,.int .i64 0,.int .i64 0,.int .i64 0,.int .i64 0,.int .i64 0,.int .i64 0,.int .i64 0,.int .i64 0,.int .i64 0,.int .i64 0],true,.struct [⟨22,0,1,false⟩,⟨3,1,1,false⟩,⟨2,2,1,false⟩,⟨2,3,1,false⟩,⟨3,4,1,false⟩,⟨3,5,1,false⟩,⟨3,6,1,false⟩,⟨3,7,1,false⟩,⟨3,8,1,false⟩,⟨3,9,1,false⟩,⟨3,10,1,false⟩,⟨3,11,1,false⟩]⟩),
 (25,⟨1,24,[.snil],false,.slice 140⟩),
 (26,⟨1,24,[.snil],false,.slice 2⟩),
 (27,⟨1,24,[.snil],false,.slice 141⟩),
 (29,⟨15,184,[.snil,.int .i64 0,.int .i64 0,.int .i64 0,.int .i64 0,.int .i64 0,.int .i64 0,.int .i64 0,.int .i64 0,.int .i64 0,.int .i64 0,.int .i64 0,.snil,.snil,.snil],true,.struct [⟨24,0,12,true⟩,⟨25,12,1,false⟩,⟨26,13,1,false⟩,⟨27,14,1,false⟩]⟩),
 (33,⟨1,8,[.pnil],false,.ptr⟩),
 (34,⟨1,8,[.int .i64 0],false,.int .i64⟩),
 (44,⟨1,24,[.snil],false,.slice 47⟩),
 (47,⟨2,16,[.int .i64 0,.int .i64 0],true,.struct [⟨3,0,1,false⟩,⟨3,1,1,false⟩]⟩),
 (62,⟨1,24,[.snil],false,.slice 78⟩),
 (71,⟨5,40,[.int .i64 0,.int .i64 0,.int .i64 0,.int .i64 0,.int .i64 0],true,.struct [⟨3,0,1,false⟩,⟨3,1,1,false⟩,⟨3,2,1,false⟩,⟨3,3,1,false⟩,⟨3,4,1,false⟩]⟩),
 (78,⟨6,64,[.int .i64 0,.int .i64 0,.int .i64 0,.int .i64 0,.int .i64 0,.snil],true,.struct [⟨71,0,5,true⟩,⟨26,5,1,false⟩]⟩),
 (85,⟨1,24,[.snil],false,.slice 89⟩),
 (87,⟨1,24,[.snil],false,.slice 2⟩),
 (89,⟨2,48,[.snil,.snil],true,.struct [⟨87,0,1,false⟩,⟨87,1,1,false⟩]⟩),
 (91,⟨1,24,[.snil],false,.slice 127⟩),
 (92,⟨1,24,[.snil],false,.slice 98⟩),
 (94,⟨3,56,[.snil,.snil,.int .i64 0],true,.struct [⟨91,0,1,false⟩,⟨92,1,1,false⟩,⟨3,2,1,false⟩]⟩),
 (95,⟨1,8,[.pnil],false,.ptr⟩),
 (98,⟨1,8,[.pnil],false,.ptr⟩),
 (101,⟨1,24,[.snil],false,.slice 22⟩),
 (127,⟨1,16,[.inil],false,.other⟩),
 (140,⟨2,48,[.snil,.snil],true,.struct [⟨26,0,1,false⟩,⟨26,1,1,false⟩]⟩),
 (141,⟨1,8,[.int .u64 0],false,.int .u64⟩),
 (144,⟨9,64,[.bool false,.bool false,.int .i64 0,.int .i64 0,.int .i64 0,.int .i64 0,.int .i64 0,.int .i64 0,.int .i64 0],true,.struct [⟨4,0,1,false⟩,⟨4,1,1,false⟩,⟨71,2,5,true⟩,⟨47,7,2,true⟩]⟩),
 (146,⟨12,88,[.int .i64 0,.int .i64 0,.int .i64 0,.bool false,.bool false,.int .i64 0,.int .i64 0,.int .i64 0,.int .i64 0,.int .i64 0,.int .i64 0,.int .i64 0],true,.struct [⟨3,0,1,false⟩,⟨3,1,1,false⟩,⟨3,2,1,false⟩,⟨144,3,9,true⟩]⟩),
 (150,⟨1,8,[.pnil],false,.ptr⟩),
 (153,⟨1,8,[.pnil],false,.ptr⟩),
 (156,⟨1,8,[.pnil],false,.ptr⟩),
 (162,⟨3,24,[.int .i64 0,.int .i64 0,.int .i64 0],true,.struct [⟨2,0,1,false⟩,⟨2,1,1,false⟩,⟨3,2,1,false⟩]⟩),
 (164,⟨11,120,[.int .i64 0,.int .i64 0,.int .i64 0,.pnil,.snil,.pnil,.pnil,.snil,.int .i64 0,.int .i64 0,.int .i64 0],true,.struct [⟨3,0,1,false⟩,⟨3,1,1,false⟩,⟨3,2,1,false⟩,⟨150,3,1,false⟩,⟨25,4,1,false⟩,⟨153,5,1,false⟩,⟨156,6,1,false⟩,⟨44,7,1,false⟩,⟨162,8,3,true⟩]⟩),
 (166,⟨1,24,[.snil],false,.slice 146⟩),
 (169,⟨19,280,[.int .i64 0,.int .i64 0,.int .i64 0,.pnil,.snil,.pnil,.pnil,.snil,.int .i64 0,.int .i64 0,.int .i64 0,.snil,.snil,.snil,.snil,.snil,.int .i64 0,.int .i64 0,.snil],true,.struct [⟨164,0,11,true⟩,⟨89,11,2,true⟩,⟨87,13,1,false⟩,⟨85,14,1,false⟩,⟨166,15,1,false⟩,⟨3,16,1,false⟩,⟨3,17,1,false⟩,⟨22,18,1,false⟩]⟩),
 (170,⟨2,16,[.int .i64 0,.int .i64 0],true,.array 2 3 1 false⟩),
 (172,⟨5,56,[.snil,.int .i64 0,.int .i64 0,.int .i64 0,.int .i64 0],true,.struct [⟨62,0,1,false⟩,⟨3,1,1,false⟩,⟨170,2,2,true⟩,⟨3,4,1,false⟩]⟩),
 (186,⟨1,8,[.fnil],false,.other⟩),
 (199,⟨4,80,[.snil,.snil,.snil,.int .i64 0],true,.struct [⟨22,0,1,false⟩,⟨44,1,1,false⟩,⟨44,2,1,false⟩,⟨3,3,1,false⟩]⟩),
 (204,⟨4,64,[.int .i64 0,.int .i64 0,.snil,.snil],true,.struct [⟨3,0,1,false⟩,⟨3,1,1,false⟩,⟨44,2,1,false⟩,⟨101,3,1,false⟩]⟩),
 (205,⟨1,8,[.pnil],false,.ptr⟩),
 (210,⟨14,160,[.snil,.int .i64 0,.int .i64 0,.int .i64 0,.int .i64 0,.int .i64 0,.int .i64 0,.int .i64 0,.int .i64 0,.int .i64 0,.int .i64 0,.int .i64 0,.snil,.snil],true,.struct [⟨24,0,12,true⟩,⟨44,12,1,false⟩,⟨44,13,1,false⟩]⟩),
 (212,⟨15,184,[.snil,.int .i64 0,.int .i64 0,.int .i64 0,.int .i64 0,.int .i64 0,.int .i64 0,.int .i64 0,.int .i64 0,.int .i64 0,.int .i64 0,.int .i64 0,.snil,.snil,.snil],true,.struct [⟨210,0,14,true⟩,⟨22,14,1,false⟩]⟩),
 (250,⟨1,24,[.snil],true,.struct [⟨27,0,1,false⟩]⟩),
 (252,⟨2,32,[.snil,.int .i64 0],true,.struct [⟨250,0,1,true⟩,⟨3,1,1,false⟩]⟩),
 (258,⟨2,32,[.int .i64 0,.snil],true,.struct [⟨3,0,1,false⟩,⟨166,1,1,false⟩]⟩),
 (277,⟨6,48,[.int .i64 0,.int .i64 0,.int .i64 0,.int .i64 0,.int .i64 0,.int .i64 0],true,.struct [⟨3,0,1,false⟩,⟨3,1,1,false⟩,⟨47,2,2,true⟩,⟨3,4,1,false⟩,⟨3,5,1,false⟩]⟩),
 (278,⟨1,24,[.snil],false,.slice 144⟩),
 (288,⟨2,16,[.fnil,.fnil],true,.array 2 287 1 false⟩),
 (307,⟨1,8,[.fnil],false,.other⟩),
 (308,⟨7,56,[.fnil,.fnil,.fnil,.fnil,.fnil,.fnil,.fnil],true,.array 7 307 1 false⟩),
 (311,⟨13,96,[.int .i64 0,.int .i64 0,.int .i64 0,.bool false,.bool false,.int .i64 0,.int .i64 0,.int .i64 0,.int .i64 0,.int .i64 0,.int .i64 0,.int .i64 0,.fnil],true,.struct [⟨146,0,12,true⟩,⟨307,12,1,false⟩]⟩),
 (313,⟨2,16,[.pnil,.pnil],true,.struct [⟨98,0,1,false⟩,⟨98,1,1,false⟩]⟩),
 (315,⟨1,8,[.pnil],false,.ptr⟩),
 (328,⟨1,24,[.snil],false,.slice 337⟩),
 (330,⟨4,64,[.pnil,.snil,.int .i64 0,.snil],true,.struct [⟨150,0,1,false⟩,⟨87,1,1,false⟩,⟨3,2,1,false⟩,⟨328,3,1,false⟩]⟩),
 (333,⟨3,40,[.int .i64 0,.int .i64 0,.snil],true,.struct [⟨3,0,1,false⟩,⟨3,1,1,false⟩,⟨87,2,1,false⟩]⟩),
 (337,⟨4,64,[.int .i64 0,.int .i64 0,.snil,.snil],true,.struct [⟨333,0,3,true⟩,⟨87,3,1,false⟩]⟩),
 (340,⟨1,24,[.snil],false,.slice 87⟩),
 (372,⟨2,16,[.int .i64 0,.int .i64 0],true,.array 2 2 1 false⟩),
 (373,⟨4,32,[.int .i64 0,.int .i64 0,.int .i64 0,.int .i64 0],true,.array 2 372 2 true⟩)
]
def siMT : List (Nat × String × Nat) := [(95, "Next", 196), (95, "Do", 195), (95, "Trajectory", 197)]
noncomputable def siFT:FTabR:=[
 (8,Tryz.f8,[],false),
 (9,Tryz.f9,[(10,⟨[0,1,2,3,4,5,6,7,8,9,10,11,12,13],[0,0,2,6,14,0,32,96,224,480,1022,2047,4095,8191],[0,0,1,2,3,0,1,2,3,4,5,6,7,8]⟩)],false),
 (11,Tryz.f11,[],false),
 (14,Tryz.f14,[],false),
 (18,Tryz.f18,[],false),
 (25,Tryz.f25,[],false),
 (26,Tryz.f26,[],false),
 (27,Tryz.f27,[],false),
 (28,Tryz.f28,[(6,⟨[0,1,2,3,4,5,6,7,8,9,10,11,12,13,14,15,16,17,18,19],[0,1,0,4,12,28,0,64,0,256,768,1792,4032,8128,16383,32767,65535,65535,131071,524287],[0,1,0,1,2,3,0,1,0,1,2,3,4,5,6,7,8,8,9,10]⟩),(10,⟨[0,1,2,3,4,5,6,7,8,9,10],[0,1,3,7,15,31,7,71,255,511,1023],[0,1,2,3,4,5,3,4,6,7,8]⟩),(12,⟨[0,1,2,3,4,5,6,7],[0,1,3,0,0,24,63,127],[0,1,2,0,0,1,3,4]⟩)],false),
 (29,Tryz.f29,[(9,⟨[0,1,2,3,4,5,6,7,8],[0,0,2,7,15,31,31,63,255],[0,0,1,2,3,4,4,5,6]⟩),(11,⟨[0,1,2,3,4,5,6,7,9,10,11,13,14,15,16,17,18,19,21,22,25,28,29,8,12,20,23,24,26,27,30,31,32,33],[0,0,2,0,8,0,0,64,192,0,0,0,2496,0,8192,0,32768,0,131072,516096,1048575,0,0,4200896,12589504,0,46143936,113252800,0,0,918559168,2147483647,4294967295,8589934591],[0,0,1,0,1,0,0,1,2,0,0,0,3,0,1,0,1,0,1,2,4,0,0,4,5,0,5,6,0,0,6,7,8,9]⟩)],false),
 (30,Tryz.f30,[],false),
 (39,Tryz.f39,[],false),
 (40,Tryz.f40,[(3,⟨[0,1,2,3,4,5,6,7,8,9,10,11,12,13,14,15],[0,0,0,0,0,0,48,112,0,0,768,1792,4083,8179,16383,32767],[0,0,0,0,0,0,1,2,0,0,1,2,3,4,5,6]⟩)],false),
 (41,Tryz.f41,[],false),
 (42,Tryz.f42,[],false),
 (43,Tryz.f43,[],false),
 (44,Tryz.f44,[],false),
 (47,Tryz.f47,[(4,⟨[0,1,2,3,4,5,6,7,8,9,10,11,12,13,14,15,16,17,18,19,20,21,22,23,24,25,26,27,28,29],[0,1,3,7,0,31,63,0,128,384,896,0,0,6144,14336,0,63488,130944,262016,0,524288,1572864,3670016,0,16252928,33030144,127,67633151,268435455,536870911],[0,1,2,3,0,4,5,0,1,2,3,0,0,1,2,0,3,4,5,0,1,2,3,0,4,5,6,7,8,9]⟩)],false),
 (58,Tryz.f58,[],false),
 (59,Tryz.f59,[(9,⟨[0,1,2,3,4,5,6,7,8,9,10,11,12,13,14,15,16,17],[0,0,2,6,14,0,0,0,0,384,896,1984,4064,8160,16382,32767,65535,131071],[0,0,1,2,3,0,0,0,0,1,2,3,4,5,6,7,8,9]⟩),(10,⟨[0,1,2,3,4,5,6,7,8,9,10,11,12],[0,0,2,6,14,0,0,96,224,510,1023,2047,4095],[0,0,1,2,3,0,0,1,2,4,5,6,7]⟩)],false),
 (60,Tryz.f60,[],false),
 (61,Tryz.f61,[],false),
 (62,Tryz.f62,[],false),
 (63,Tryz.f63,[(5,⟨[0,1,2,3,4,5,6,7,11,8,9,10,12],[0,0,0,0,0,24,60,0,252,511,1023,0,4095],[0,0,0,0,0,1,2,0,3,4,5,0,6]⟩)],false),
 (64,Tryz.f64,[(4,⟨[0,1,2,3,4,5,6,7,8,9,10],[0,0,0,4,0,16,60,127,255,511,1023],[0,0,0,1,0,1,2,3,4,5,6]⟩),(8,⟨[0,1,2,3,4,5,6,7,8,9,10,11,12,13,14,15,16],[0,0,2,6,14,0,32,96,224,0,992,2016,4064,8190,16383,32767,65535],[0,0,1,2,3,0,1,2,3,0,4,5,6,7,8,9,10]⟩)],false),
 (65,Tryz.f65,[(1,⟨[0,2,3,4,1,5,6],[0,1,0,4,12,31,63],[0,1,0,1,2,3,4]⟩)],false),
 (66,Tryz.f66,[],false),
 (67,Tryz.f67,[],false),
 (68,Tryz.f68,[(1,⟨[0,1,3,4,2,5,6,7],[0,1,3,0,8,31,63,127],[0,1,2,0,1,3,4,5]⟩)],false),
 (69,Tryz.f69,[],false),
 (78,Tryz.f78,[],false),
 (79,Tryz.f79,[],false),
 (80,Tryz.f80,[(1,⟨[0,1,2,3,4,5,6,7,8,9,10,11],[0,0,0,6,15,0,0,0,192,480,1023,2047],[0,0,0,1,2,0,0,0,1,2,3,4]⟩)],false),
 (84,Tryz.f84,[(3,⟨[0,1,2,3,4,5,6,7,8,9,10,11],[0,1,3,7,15,0,32,96,224,480,1023,2047],[0,1,2,3,4,0,1,2,3,4,5,6]⟩)],false),
 (85,Tryz.f85,[],false),
 (86,Tryz.f86,[],false),
 (95,Tryz.f95,[],false),
 (96,Tryz.f96,[],false),
 (97,Tryz.f97,[],false),
 (98,Tryz.f98,[],false),
 (99,Tryz.f99,[(1,⟨[0,1,2,3,4,5,6,7,8,9,10,11,12],[0,1,3,7,0,16,48,112,0,496,1023,0,4095],[0,1,2,3,0,1,2,3,0,4,5,0,6]⟩)],false),
 (100,Tryz.f100,[],false),
 (101,Tryz.f101,[],false),
 (102,Tryz.f102,[],false),
 (103,Tryz.f103,[],false),
 (104,Tryz.f104,[],false),
 (105,Tryz.f105,[(2,⟨[0,1,2,3,4,5,6,7,8,9,10],[0,0,2,6,14,0,32,126,255,511,1023],[0,0,1,2,3,0,1,4,5,6,7]⟩)],false),
 (106,Tryz.f106,[],false),
 (107,Tryz.f107,[],false),
 (108,Tryz.f108,[],false),
 (109,Tryz.f109,[],false),
 (110,Tryz.f110,[],false),
 (111,Tryz.f111,[],false),
 (112,Tryz.f112,[(1,⟨[0,1,3,4,2,5,6,7],[0,1,3,0,8,31,63,127],[0,1,2,0,1,3,4,5]⟩)],false),
 (113,Tryz.f113,[],false),
 (114,Tryz.f114,[],false),
 (129,Tryz.f129,[],false),
 (136,Tryz.f136,[],false),
 (137,Tryz.f137,[],false),
 (138,Tryz.f138,[],false),
 (139,Tryz.f139,[],false),
 (140,Tryz.f140,[(0,⟨[0,1,2,3,4,5,6,7,8,9,10,11,12,13,14,15],[0,0,0,0,0,0,48,112,0,0,768,1792,4083,8179,16383,32767],[0,0,0,0,0,0,1,2,0,0,1,2,3,4,5,6]⟩)],false),
 (141,Tryz.f141,[(1,⟨[0,1,2,3,4,5,6,7,8,9,10,11,12,13,14,15,16,17],[0,0,2,6,14,0,0,64,192,448,0,0,4064,8160,16382,32767,65535,131071],[0,0,1,2,3,0,0,1,2,3,0,0,4,5,6,7,8,9]⟩)],false),
 (142,Tryz.f142,[(7,⟨[0,1,2,3,4,5,6,7,8,9,10,11,12,13,14,15,16,17,18],[0,1,3,7,0,0,32,0,224,480,0,1024,3072,0,8192,24576,65535,0,262143],[0,1,2,3,0,0,1,0,2,3,0,1,2,0,1,2,4,0,5]⟩),(8,⟨[0,1,2,3,4,5,6,7,8,9,10,11,12,13,16,14,15],[0,0,0,0,8,24,56,124,0,0,512,1536,3584,7936,16383,32767,0],[0,0,0,0,1,2,3,4,0,0,1,2,3,4,5,6,0]⟩)],false),
 (143,Tryz.f143,[],false),
 (156,Tryz.f156,[(3,⟨[0,1,2,3,4,5,6,7,8,9,10,11],[0,1,3,7,15,31,0,64,192,448,1023,2047],[0,1,2,3,4,5,0,1,2,3,6,7]⟩)],false),
 (157,Tryz.f157,[],false),
 (158,Tryz.f158,[(3,⟨[0,1,2,3,4,5,6,7,8,9,10,11],[0,1,3,7,15,0,32,96,224,511,1023,2047],[0,1,2,3,4,0,1,2,3,5,6,7]⟩)],false),
 (159,Tryz.f159,[(6,⟨[0,1,2,3,4,5,7,8,9,10,11,12,6,13,14,15],[0,0,3,7,0,16,63,0,0,384,896,0,2048,8191,16383,32767],[0,0,1,2,0,1,3,0,0,1,2,0,1,4,5,6]⟩)],false),
 (165,Tryz.f165,[(6,⟨[0,1,2,3,4,6,5,7,8,9],[0,0,0,0,8,28,0,127,255,511],[0,0,0,0,1,2,0,3,4,5]⟩)],false),
 (166,Tryz.f166,[(1,⟨[0,2,4,5,1,3,6,7,8],[0,1,0,7,0,16,63,127,255],[0,1,0,2,0,1,3,4,5]⟩)],false),
 (167,Tryz.f167,[(1,⟨[0,2,4,5,1,3,6,7,8],[0,1,0,7,0,16,63,127,255],[0,1,0,2,0,1,3,4,5]⟩)],false),
 (168,Tryz.f168,[(2,⟨[0,1,2,3,4,5,6,7,8,9,10,11,12,13,14,15,16],[0,0,0,4,12,28,60,124,0,0,0,1536,3584,8190,16382,32767,65535],[0,0,0,1,2,3,4,5,0,0,0,1,2,6,7,8,9]⟩)],false),
 (171,Tryz.f171,[],false),
 (172,Tryz.f172,[],false),
 (173,Tryz.f173,[],false),
 (174,Tryz.f174,[],false),
 (175,Tryz.f175,[],true),
 (195,Tryz.f195,[(6,⟨[0,2,3,6,1,4,5,7],[0,0,0,4,14,31,0,127],[0,0,0,1,2,3,0,4]⟩),(12,⟨[0,1,2,3,4,5,6,7,8,9],[0,1,3,7,0,16,48,112,240,511],[0,1,2,3,0,1,2,3,4,5]⟩),(13,⟨[0,1,2,3,4,5,6,7,8,9,10,11,12,13,14,15,16,17,18,19,20,21],[0,0,0,4,12,28,60,0,128,384,896,1920,0,4096,12288,32764,65533,131069,262141,524287,1048575,2097151],[0,0,0,1,2,3,4,0,1,2,3,4,0,1,2,5,6,7,8,9,10,11]⟩)],false),
 (196,Tryz.f196,[(1,⟨[0,1,2,3,4,5,6,7,8,9,10,11,12,13],[0,1,3,7,15,31,63,7,135,391,903,1927,4095,8191],[0,1,2,3,4,5,6,3,4,5,6,7,8,9]⟩),(3,⟨[0,1,2,3,4,5,6,7,8,9,10,11],[0,1,3,7,0,16,48,112,255,511,1023,2047],[0,1,2,3,0,1,2,3,4,5,6,7]⟩)],false),
 (197,Tryz.f197,[],false),
 (198,Tryz.f198,[],false),
 (199,Tryz.f199,[(1,⟨[0,1,2,3,4,5,6,7,8,9,10,11,12,13,14,15,16,17,18,19,20,21],[0,1,3,7,15,0,32,96,224,480,0,1024,3072,7168,15360,31744,65535,131071,262143,262143,524287,2097151],[0,1,2,3,4,0,1,2,3,4,0,1,2,3,4,5,6,7,8,8,9,10]⟩),(2,⟨[0,1,2,3,4,5,6,7,8,9,10,11,12,13,14,15,16,17,18,19,20,21,22,23,24,25,26,27,28,29,30,31,32,33,34,35],[0,1,3,7,15,0,32,96,224,480,0,1024,0,4096,12288,28672,61440,0,131072,393216,917504,1966080,0,4194304,0,16777216,50331648,117440512,251658240,536870880,1073741823,2147483647,4294967295,4294967295,8589934591,34359738367],[0,1,2,3,4,0,1,2,3,4,0,1,0,1,2,3,4,0,1,2,3,4,0,1,0,1,2,3,4,5,6,7,8,8,9,10]⟩)],false),
 (200,Tryz.f200,[(1,⟨[0,1,2,3,4,5,6,7,8,9,10,11],[0,0,2,6,14,0,32,96,254,511,1023,2047],[0,0,1,2,3,0,1,2,4,5,6,7]⟩)],false),
 (201,Tryz.f201,[(2,⟨[0,1,2,3,4,5,6,7,8,9,10,11,12,13,14,15,16,17],[0,1,0,4,0,16,48,112,0,256,768,0,2048,6144,16368,32764,65535,131071],[0,1,0,1,0,1,2,3,0,1,2,0,1,2,4,5,6,7]⟩)],false),
 (202,Tryz.f202,[(5,⟨[0,1,2,3,4,5,6,7,8,9,10,11],[0,1,3,7,0,16,48,0,128,384,1023,2047],[0,1,2,3,0,1,2,0,1,2,4,5]⟩)],false),
 (203,Tryz.f203,[(1,⟨[0,1,2,3,4,5,6,7,8,9,10],[0,1,3,7,15,0,32,127,255,0,1023],[0,1,2,3,4,0,1,5,6,0,7]⟩),(2,⟨[0,1,2,3,4,5,6,7,8,9,10,11,12,13,14,15,16,17,18,19],[0,1,3,7,15,0,32,96,224,0,0,1024,3072,7168,0,16384,0,65536,261120,524287],[0,1,2,3,4,0,1,2,3,0,0,1,2,3,0,1,0,1,4,5]⟩)],false),
 (204,Tryz.f204,[(1,⟨[0,1,2,3,4,5,6,7,8,9,10,11,12,13,14],[0,0,2,6,14,0,32,96,224,480,992,2046,4095,8191,16383],[0,0,1,2,3,0,1,2,3,4,5,6,7,8,9]⟩)],false),
 (205,Tryz.f205,[(9,⟨[0,1,2,3,4,5,6,7,8,9,10,11,12,13,14,15,16,17,22,18,19,20,21,23,24],[0,0,2,7,15,0,0,96,224,0,512,1536,3584,0,8192,0,32768,130560,262143,524287,1048575,1048575,0,6291455,16777215],[0,0,1,2,3,0,0,1,2,0,1,2,3,0,1,0,1,4,5,6,7,7,0,8,9]⟩),(10,⟨[0,1,2,3,4,5,6,7,8,9,10,11,12,13,14,15,16,17,18,19,20],[0,0,2,6,14,0,0,64,192,448,0,1024,0,4096,16320,32736,65504,131070,262143,524287,1048575],[0,0,1,2,3,0,0,1,2,3,0,1,0,1,4,5,6,7,8,9,10]⟩)],false),
 (206,Tryz.f206,[],false),
 (207,Tryz.f207,[],false),
 (208,Tryz.f208,[(7,⟨[0,1,2,3,4,6,7,8,9,10,12,13,5,11,14,15],[0,1,3,7,0,31,0,64,192,448,0,2047,0,0,16383,32767],[0,1,2,3,0,4,0,1,2,3,0,5,0,0,6,7]⟩),(8,⟨[0,1,2,3,4,5,6,7,8,9,10,11,12,13,14,15,16,17],[0,0,2,0,8,31,0,0,0,384,896,0,2048,6144,14336,32704,65472,131071],[0,0,1,0,1,2,0,0,0,1,2,0,1,2,3,4,5,6]⟩),(11,⟨[0,1,2,3,4,5,6,7,8,9,10,11,12,13,14,15,16,17],[0,1,3,7,0,31,63,127,0,0,512,1536,3584,8191,16383,32767,32767,65535],[0,1,2,3,0,4,5,6,0,0,1,2,3,7,8,9,9,10]⟩)],false),
 (209,Tryz.f209,[(6,⟨[0,1,2,3,4,5,6,7,8,9,10],[0,0,3,7,0,0,48,112,255,511,1023],[0,0,1,2,0,0,1,2,3,4,5]⟩)],false),
 (210,Tryz.f210,[(3,⟨[0,2,3,4,5,1,6],[0,1,0,4,12,28,63],[0,1,0,1,2,3,4]⟩),(9,⟨[0,1,2,3,4,5,6,7],[0,1,3,7,0,0,63,127],[0,1,2,3,0,0,4,5]⟩),(10,⟨[0,1,2,3,4,5,6,7,8,9,10],[0,0,2,6,14,0,32,126,255,511,1023],[0,0,1,2,3,0,1,4,5,6,7]⟩),(11,⟨[0,1,2,3,4,5,6,7,8,9],[0,1,3,7,15,31,1,65,255,511],[0,1,2,3,4,5,1,2,6,7]⟩),(12,⟨[0,1,2,3,4,5,6,7,8,9,10],[0,0,2,6,14,0,32,126,255,511,1023],[0,0,1,2,3,0,1,4,5,6,7]⟩)],false),
 (211,Tryz.f211,[(8,⟨[0,1,2,3,4,5,6,7,8,9,13,10,11,12,14],[0,1,3,7,0,0,32,96,224,480,1008,2047,4095,0,16383],[0,1,2,3,0,0,1,2,3,4,5,6,7,0,8]⟩),(9,⟨[0,1,2,3,4,5,6,7,8,9],[0,1,3,7,15,31,1,65,255,511],[0,1,2,3,4,5,1,2,6,7]⟩)],false),
 (212,Tryz.f212,[(6,⟨[0,1,2,3,4,5,6,7,8,9,10,11,12,13,14,15,16,17,18,19],[0,0,2,0,8,0,56,126,0,256,0,1024,0,7168,16128,0,0,98304,229376,524287],[0,0,1,0,1,0,2,3,0,1,0,1,0,2,3,0,0,1,2,4]⟩)],false),
 (213,Tryz.f213,[],false),
 (214,Tryz.f214,[],false),
 (215,Tryz.f215,[],false),
 (216,Tryz.f216,[],false),
 (217,Tryz.f217,[],false),
 (218,Tryz.f218,[],false),
 (219,Tryz.f219,[],false),
 (220,Tryz.f220,[],false),
 (221,Tryz.f221,[],false),
 (222,Tryz.f222,[(5,⟨[0,1,2,3,4,5,6,7,8,9,10,11,12,13,14],[0,1,3,7,0,31,63,0,128,0,512,0,2048,8191,16383],[0,1,2,3,0,4,5,0,1,0,1,0,1,6,7]⟩)],false),
 (223,Tryz.f223,[],false),
 (224,Tryz.f224,[(8,⟨[0,1,2,3,4,5,6,7,8,9,10,11,12],[0,0,0,0,12,28,0,0,192,448,1020,2047,4095],[0,0,0,0,1,2,0,0,1,2,3,4,5]⟩)],false),
 (225,Tryz.f225,[(10,⟨[0,1,2,3,4,5,6,7,8,9,10,11,12,13],[0,0,0,0,12,28,0,0,192,448,0,2044,4095,8191],[0,0,0,0,1,2,0,0,1,2,0,3,4,5]⟩)],true),
 (226,Tryz.f226,[(7,⟨[0,1,2,3,4,5,6,7,8],[0,0,0,0,12,28,0,126,255],[0,0,0,0,1,2,0,3,4]⟩)],true),
 (227,Tryz.f227,[],false),
 (228,Tryz.f228,[(3,⟨[0,1,2,3,4,5,6,7,8,9,10,11,12,13,14,15],[0,1,3,7,0,0,32,96,224,480,1008,2047,4095,8191,16383,32767],[0,1,2,3,0,0,1,2,3,4,5,6,7,8,9,10]⟩)],false),
 (229,Tryz.f229,[(1,⟨[0,1,2,3,4,5,6,7,9,8,10,11,12,13],[0,0,2,0,8,24,0,64,254,0,1022,2046,4095,8191],[0,0,1,0,1,2,0,1,3,0,4,5,6,7]⟩),(2,⟨[0,1,2,3,4,5,6,7,8,9,10,11,12,13,14],[0,0,2,6,0,16,0,64,192,0,512,2032,4094,8191,16383],[0,0,1,2,0,1,0,1,2,0,1,3,4,5,6]⟩)],false),
 (230,Tryz.f230,[],false),
 (231,Tryz.f231,[(3,⟨[0,1,2,3,4,5,6,7,8,9,10,11,12,13,14,15,16],[0,0,2,6,14,30,63,0,0,256,768,1792,3840,8064,127,32767,65535],[0,0,1,2,3,4,5,0,0,1,2,3,4,5,6,7,8]⟩)],false),
 (232,Tryz.f232,[(8,⟨[0,1,2,3,4,5,6,7,8,9,10,11,12,13,14,15],[0,1,0,0,12,28,0,64,192,448,1023,2047,4095,4095,8191,32767],[0,1,0,0,1,2,0,1,2,3,4,5,6,6,7,8]⟩)],false),
 (233,Tryz.f233,[],false),
 (234,Tryz.f234,[],false),
 (235,Tryz.f235,[],false),
 (236,Tryz.f236,[],false),
 (237,Tryz.f237,[],false),
 (238,Tryz.f238,[],false),
 (239,Tryz.f239,[],false),
 (240,Tryz.f240,[],false),
 (241,Tryz.f241,[],false),
 (242,Tryz.f242,[],true),
 (243,Tryz.f243,[],false),
 (244,Tryz.f244,[],false),
 (245,Tryz.f245,[(1,⟨[0,1,2,3,4,5,6,7,8,9,10],[0,0,2,7,0,16,0,64,240,15,1023],[0,0,1,2,0,1,0,1,2,3,4]⟩)],false),
 (246,Tryz.f246,[],false),
 (247,Tryz.f247,[(3,⟨[0,1,2,3,4,5,6,7,8,9,10],[0,1,0,4,15,0,0,96,255,511,1023],[0,1,0,1,2,0,0,1,3,4,5]⟩)],false),
 (248,Tryz.f248,[],true),
 (249,Tryz.f249,[],false),
 (250,Tryz.f250,[],false),
 (251,Tryz.f251,[],false),
 (252,Tryz.f252,[],false)
]
end Go.Proofs.YtdpojpcoghcieaaGreat.Si
namespace Go.Proofs.YtdpojpcoghcieaaGreat.Si
noncomputable section
open Go.RowKit
def sizeB (P:Program) (t n:Nat):Bool:=match P.info? t with
 | some i=>Nat.beq i.size n
 | none=>false
def rowB (P:Program) (t:Nat) (b:Bool):Bool:=match P.underlying t with
 | some d=>d.isRow == b
 | none=>false
theorem sizeB_ok {P:Program} {t n:Nat} (h:sizeB P t n=true):(P.info? t).map (·.size)=some n:=by
 unfold sizeB at h
 split at h
 · rename_i i hi
   rw [hi]
   simp [Nat.eq_of_beq_eq_true h]
 · cases h
theorem rowB_ok {P:Program} {t:Nat} {b:Bool} (h:rowB P t b=true):∃ d,P.underlying t=some d∧d.isRow=b:=by
 unfold rowB at h
 split at h
 · rename_i d hd
   exact ⟨d,hd,by simpa using h⟩
 · cases h
def fieldsB (P:Program):List FD→List Field→Bool
 | [],[]=>true
 | f::r,g::l=>Nat.beq g.type f.type && Nat.beq g.offset f.off && sizeB P f.type f.size && Nat.blt 0 f.size && rowB P f.type f.agg && fieldsB P r l
 | _,_=>false
theorem fieldsB_ok {P:Program}:∀ {fs:List FD} {l:List Field},fieldsB P fs l=true→l.map (fun f=>(f.type,f.offset))=fs.map (fun f=>(f.type,f.off)) ∧
  ∀ f∈fs,(P.info? f.type).map (·.size)=some f.size∧0<f.size∧∃ d',P.underlying f.type=some d'∧d'.isRow=f.agg
 | [],[],_=>⟨rfl,fun f h=>by cases h⟩
 | [],_::_,h=>by cases h
 | _::_,[],h=>by cases h
 | f::r,g::l,h=>by
   simp only [fieldsB,Bool.and_eq_true] at h
   obtain ⟨⟨⟨⟨⟨h1,h2⟩,h3⟩,h4⟩,h5⟩,h6⟩:=h
   obtain ⟨k1,k2⟩:=fieldsB_ok h6
   refine ⟨by simp [k1,Nat.eq_of_beq_eq_true h1,Nat.eq_of_beq_eq_true h2],fun q hq=>?_⟩
   rcases List.mem_cons.1 hq with rfl | hq
   · exact ⟨sizeB_ok h3,Nat.le_of_ble_eq_true h4,rowB_ok h5⟩
   · exact k2 q hq
def kindB (P:Program):TK→TypeDesc→Bool
 | .other,_=>true
 | .bool,.bool=>true
 | .int k,.int l=>k == l
 | .ptr,.pointer e=>!(sizeB P e 0)
 | .slice e,.slice f=>Nat.beq e f
 | .struct fs,.struct F=>fieldsB P fs F.toList
 | .array n e es ea,.array m f=>Nat.beq n m && Nat.beq e f && sizeB P e es && rowB P e ea
 | _,_=>false
def typeB (P:Program) (t:Nat) (i:TI):Bool:=(match P.info? t with
    | some f=>Nat.beq f.size i.size && Nat.beq f.bytes i.bytes && (match f.zero with
      | some z=>(match absCs z.cells.toList with
        | some l=>beqL l i.zero
        | none=>false)
      | none=>false)
    | none=>false) && Nat.beq i.zero.length i.size && Nat.blt 0 i.size && (match P.underlying t with
    | some d=>(d.isRow == i.agg) && kindB P i.k d
    | none=>false)
theorem typeB_ok {P:Program} {t:Nat} {i:TI} (h:typeB P t i=true):TypeOk P t i:=by
 simp only [typeB,Bool.and_eq_true] at h
 obtain ⟨⟨⟨h1,h2⟩,h3⟩,h4⟩:=h
 refine ⟨?_,Nat.eq_of_beq_eq_true h2,Nat.le_of_ble_eq_true h3,?_⟩
 · split at h1
   · rename_i f hf
     simp only [Bool.and_eq_true] at h1
     obtain ⟨⟨a1,a2⟩,a3⟩:=h1
     split at a3
     · rename_i z hz
       split at a3
       · rename_i l hl
         refine ⟨z,?_,?_⟩
         · rw [hf]
           simp [Nat.eq_of_beq_eq_true a1,Nat.eq_of_beq_eq_true a2,hz]
         · rw [hl,beqL_eq _ _ a3]
       · cases a3
     · cases a3
   · cases h1
 · split at h4
   · rename_i d hd
     simp only [Bool.and_eq_true] at h4
     refine ⟨d,hd,by simpa using h4.1,?_⟩
     have h5:=h4.2
     generalize i.k=kk at h5
     unfold kindB at h5
     split at h5
     · trivial
     · rfl
     · rename_i k l
       have e:k=l:=by simpa using h5
       exact e ▸ rfl
     · rename_i e
       refine ⟨e,rfl,fun hs=>?_⟩
       unfold sizeB at h5
       split at h5
       · rename_i q hq
         rw [hq] at hs
         simp at hs
         rw [hs] at h5
         cases h5
       · rename_i hq
         rw [hq] at hs
         cases hs
     · rename_i e f
       have e1:e=f:=Nat.eq_of_beq_eq_true h5
       exact e1 ▸ rfl
     · rename_i fs F
       obtain ⟨k1,k2⟩:=fieldsB_ok h5
       exact ⟨F,rfl,k1,k2⟩
     · simp only [Bool.and_eq_true] at h5
       obtain ⟨⟨⟨a1,a2⟩,a3⟩,a4⟩:=h5
       exact ⟨by rw [Nat.eq_of_beq_eq_true a1,Nat.eq_of_beq_eq_true a2],sizeB_ok a3,rowB_ok a4⟩
     · cases h5
   · cases h4
def typesB (P:Program) (T:TT):Bool:=T.all fun p=>typeB P p.1 p.2
theorem typesB_ok {P:Program} {T:TT} (h:typesB P T=true):TypesOk P T:=fun p hp=>typeB_ok ((List.all_eq_true.1 h) p hp)
def bodyB (fn : Func) : Bool := fn.body.isSome && !(fn.name == "runtime.NumGoroutine")
theorem enter_ok {P:Program} {f:Nat} {fn:Func} (hf:P.funcs[f]?=some fn) (hb:bodyB fn=true) (qs:Array Value) (w:World):(callFunc f qs).run P w=.ok (.enter f qs) w:=by
 simp only [bodyB,Bool.and_eq_true,Bool.not_eq_true'] at hb
 have h1:¬ (fn.body=none):=by
  intro e
  rw [e] at hb
  exact absurd hb.1 (by simp)
 have h2 : ¬ (fn.name = "runtime.NumGoroutine") := by simpa using hb.2
 simp [callFunc,Sem.run_bind,hf,h2,h1]
def FuncsAre (P:Program):FTabR→Prop
 | []=>True
 | p::r=>P.funcs[p.1]?=some p.2.1∧FuncsAre P r
theorem FuncsAre.at {P:Program}:∀ {FT:FTabR},FuncsAre P FT→∀ p∈FT,P.funcs[p.1]?=some p.2.1
 | [],_,p,hp=>by cases hp
 | q::r,h,p,hp=>by
   rcases List.mem_cons.1 hp with rfl | hp
   · exact h.1
   · exact FuncsAre.at h.2 p hp
theorem ftab_ok {P:Program} {FT:FTabR} (h:FuncsAre P FT) (hb:FT.all (fun p=>bodyB p.2.1)=true):FTabOk P FT:=fun p hp=>⟨h.at p hp,fun qs w=>enter_ok (h.at p hp) ((List.all_eq_true.1 hb) p hp) qs w⟩
end
noncomputable section
open Go.RowKit
def updT (t:Tr) (l:List (Nat × Option AO)):Tr:=List.rec (motive:=fun _=>Tr→Tr) (fun t=>t) (fun p _ ih t=>Option.rec (motive:=fun _=>Tr) (ih (t.set dep p.1 p.2)) (fun _=>ih (t.set dep p.1 p.2)) ((t.set dep p.1 p.2).get dep p.1)) l t
def beqO:AO→AO→Bool
 | .cells cs t,.cells cs' t'=>Nat.beq t t' && beqL cs cs'
 | .dfr,.dfr=>true
 | _,_=>false
theorem beqO_eq (o p:AO) (h:beqO o p=true):o=p:=by
 unfold beqO at h
 split at h
 · simp only [Bool.and_eq_true] at h
   rw [Nat.eq_of_beq_eq_true h.1,beqL_eq _ _ h.2]
 · rfl
 · cases h
def beqT (t:Tr):Tr→Bool:=Tr.rec (motive:=fun _=>Tr→Bool) (fun u=>Tr.rec (motive:=fun _=>Bool) true (fun _=>false) (fun _ _ _ _=>false) u)
 (fun o u=>Tr.rec (motive:=fun _=>Bool) false (fun p=>beqO o p) (fun _ _ _ _=>false) u)
 (fun _ _ il ir u=>Tr.rec (motive:=fun _=>Bool) false (fun _=>false) (fun l r _ _=>Bool.rec (motive:=fun _=>Bool) false (ir r) (il l)) u) t
theorem beqT_eq:∀ (t u:Tr),beqT t u=true→t=u
 | .e,.e,_=>rfl
 | .e,.leaf _,h=>by cases h
 | .e,.n _ _,h=>by cases h
 | .leaf _,.e,h=>by cases h
 | .leaf o,.leaf p,h=>by rw [beqO_eq o p h]
 | .leaf _,.n _ _,h=>by cases h
 | .n _ _,.e,h=>by cases h
 | .n _ _,.leaf _,h=>by cases h
 | .n l r,.n l' r',h=>by
   have h':Bool.rec (motive:=fun _=>Bool) false (beqT r r') (beqT l l')=true:=h
   cases hl:beqT l l' with
   | false=>rw [hl] at h';cases h'
   | true=>rw [hl] at h';rw [beqT_eq l l' hl,beqT_eq r r' h']
structure Orc where
 f:Nat
 args:List AV
 s0:St
 r:AV
 s1:St
def chkO (x:Option (AV × St)) (e:Orc):Bool:=match x with
 | some (r,s)=>beqA r e.r && Nat.beq s.next e.s1.next && beqT s.t e.s1.t
 | none=>false
theorem chkO_eq {x:Option (AV × St)} {e:Orc} (h:chkO x e=true):x=some (e.r,e.s1):=by
 unfold chkO at h
 split at h
 · rename_i r s
   simp only [Bool.and_eq_true] at h
   have e1:=beqA_eq _ _ h.1.1
   have e2:=Nat.eq_of_beq_eq_true h.1.2
   have e3:=beqT_eq _ _ h.2
   obtain ⟨t,nx⟩:=s
   dsimp only at e2 e3
   rw [e1,e2,e3]
 · cases h
def findO:List Orc→Nat→List AV→St→Option (AV × St)
 | [],_,_,_=>none
 | e::l,f,args,s=>bif Nat.beq e.f f && Nat.beq e.s0.next s.next then (bif beqL e.args args && beqT e.s0.t s.t then some (e.r,e.s1) else none) else findO l f args s
def orcA (OT:List Orc) (F:List Nat):Cal:=fun ρ s o=>match o.op with
 | .call { callee:=.value (.func f),args:=xs,.. }=>bif F.any (fun g=>Nat.beq g f) then (evalL ρ xs.toList).bind fun qs=>findO OT f qs s else none
 | _=>none
def OrcOk (P:Program) (e:Orc):Prop:=(∀ qs w,(callFunc e.f qs).run P w=.ok (.enter e.f qs) w) ∧
 ∀ (n B:Nat) (w0 w:World) (φ:Phi) (qs:List Value),concL φ e.args=some qs→Stands B w0 φ e.s0 w→∀ R:Ending→World→Prop,
   (∀ φ' w' v,Eff B w0 φ φ' e.s0 e.s1 w'→conc φ' e.r=some v→R (.returned v) w')→CallsIn Fence.wide n P e.f qs.toArray w R
theorem findO_ok {P:Program}:∀ {OT:List Orc},(∀ e∈OT,OrcOk P e)→∀ {f:Nat} {args:List AV} {s s':St} {r:AV},findO OT f args s=some (r,s')→OrcOk P ⟨f,args,s,r,s'⟩
 | [],_,_,_,_,_,_,h=>by cases h
 | e::l,hO,f,args,s,s',r,h=>by
   unfold findO at h
   cases h1:(Nat.beq e.f f && Nat.beq e.s0.next s.next) with
   | false =>
     rw [h1] at h
     exact findO_ok (fun e he=>hO e (List.mem_cons_of_mem _ he)) h
   | true =>
     rw [h1] at h
     simp only [cond_true] at h
     cases h2:(beqL e.args args && beqT e.s0.t s.t) with
     | false=>rw [h2] at h;cases h
     | true =>
       rw [h2] at h
       simp only [cond_true,Option.some.injEq,Prod.mk.injEq] at h
       simp only [Bool.and_eq_true] at h1 h2
       have e1:=Nat.eq_of_beq_eq_true h1.1
       have e2:=Nat.eq_of_beq_eq_true h1.2
       have e3:=beqL_eq _ _ h2.1
       have e4:=beqT_eq _ _ h2.2
       have e5:e.s0=s:=by
        obtain ⟨t,nx⟩:=s
        have:e.s0=⟨e.s0.t,e.s0.next⟩:=rfl
        rw [this,e4,e2]
       have:=hO e List.mem_cons_self
       obtain ⟨f0,a0,s0,r0,s1⟩:=e
       dsimp only at e1 e3 e5 h
       obtain ⟨rfl,rfl⟩:=h
       subst e1 e3 e5
       exact this
theorem orcA_ok {P:Program} {OT:List Orc} {FL:List Nat} (hO:∀ e∈OT,OrcOk P e) (F:Fence) (hw:F=Fence.wide∨∃ l,F=Fence.wide.inRound l) (n:Nat):CalOk F n P (orcA OT FL):=by
 intro B w0 w φ ρ s s' o a r hρ hs hcal K Q hK
 unfold orcA at hcal
 split at hcal
 · rename_i f xs ats ho
   cases hF:FL.any (fun g=>Nat.beq g f) with
   | false=>rw [hF] at hcal;cases hcal
   | true =>
     rw [hF] at hcal
     simp only [cond_true,Option.bind_eq_some_iff] at hcal
     obtain ⟨qs,has,hfo⟩:=hcal
     obtain ⟨hen,hcall⟩:=findO_ok hO hfo
     dsimp only at hen hcall
     have k4:=evalL_ok hρ has
     have hrun:(execOp a.eval o).run P w=.ok (.enter f (xs.toList.map a.eval).toArray) w:=by
      have e1:execOp a.eval o=(do let d ← resolve a.eval { callee:=.value (.func f),args:=xs,argTypes:=ats } o.type;invoke d.target d.args):=by unfold execOp;rw [ho]
      have e2:a.eval (.func f)=.func (.func f) #[] #[]:=rfl
      rw [e1]
      simp only [resolve,e2,Deferred.ofValue,Sem.run_bind,Sem.run_pure,Result.andThen_ok,invoke]
      rw [hen]
      congr 2
      apply Array.ext'
      simp
     have hall:∀ f,F.fn f:=by rcases hw with rfl | ⟨l,rfl⟩ <;> exact fun _=>trivial
     have hdep:F.depth.isSome=true→1≤n:=by rcases hw with rfl | ⟨l,rfl⟩ <;> exact fun h=>by cases h
     refine ⟨fun f _=>hall f,?_⟩
     rw [Oper.semAt_eq _ _ _ (fun c e=>by rw [e] at ho;cases ho),hrun]
     rw [Oper.uponIn_enter]
     refine ⟨hdep,?_⟩
     have hc:∀ R:Ending→World→Prop,(∀ φ' w' v,Eff B w0 φ φ' s s' w'→conc φ' r=some v→R (.returned v) w')→CallsIn F (n-1) P f (xs.toList.map a.eval).toArray w R:=fun R hR=>by
      have:=hcall (n-1) B w0 w φ _ k4 hs R hR
      rcases hw with rfl | ⟨l,rfl⟩
      · exact this
      · exact this
     exact hc _ hK
 · cases hcal
end
end Go.Proofs.YtdpojpcoghcieaaGreat.Si
