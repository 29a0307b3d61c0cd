/- A part of the proof. -/
import Derived.Test.YtcjlkjeeifemhaaGreatDoorB11
import Derived.Test.YtcjlkjeeifemhaaGreatDoorB9
import Derived.Test.YtcjlkjeeifemhaaGreatDoorB8
import Derived.Test.YtcjlkjeeifemhaaGreatDoorB12
import Derived.KernelRfl
import Derived.Test.YtcjlkjeeifemhaaGreatDoorB7
import Derived.Test.YtcjlkjeeifemhaaGreatDoorB6
namespace Go.Proofs.YtcjlkjeeifemhaaGreatDoor
open Go Go.Ab
section
set_option maxRecDepth 100000
noncomputable def K:FuncId->List Value->Option dU:=tK K0 12 (.bool true)
abbrev n_:FT:=⟨[],[],false,0,[]⟩
def sa:List FT:=[n_,n_,n_,n_,n_,n_,⟨[(2,[0,1]),(14,[1,2]),(244,[1,2,5]),(62,[1]),(254,[1,9])],[],false,644,[]⟩,n_,n_,n_,n_,n_,⟨[(2,[])],[],false,10,[]⟩,⟨[(2,[0])],[],false,2,[]⟩,n_,n_]
def s0:List FT:=[⟨[(2,[0]),(14,[1]),(488,[1,6,39,40]),(7832,[1,6,39,40]),(62,[1,6]),(62670,[1,6,7,8,39,40]),(508,[1,6]),(250686,[1,6,8,10,39,40]),(4072,[1,6,128,129,130]),(1002750,[1,6,8,10,11,39,40]),(65176,[1,6,128,129,130]),(1020,[1,6]),(16295,[1,6,128,129,130]),(2044,[1,6])],[],false,1701411834604692317316873038258352685058,[]⟩,n_,n_,n_,⟨[(2,[0]),(14,[1]),(4072,[1,5,60,61,62]),(65176,[1,5,60,61,62]),(1020,[1,5]),(521422,[1,5,6,8,60,61,62]),(8168,[5,89,90,91]),(130712,[5,89,90,91]),(522854,[5,11,89,90,91]),(522855,[5,11,89,90,91])],[],false,3094850103978058210282047522,[(22,[(3,2),(4,2),(5,2),(6,2),(7,2),(8,2)]),(23,[(3,2),(4,2)])]⟩,⟨[(2,[0]),(14,[0,2]),(62,[2,4]),(508,[2,5]),(1020,[2,5])],[],false,36,[]⟩,⟨[(2,[0,1]),(28,[2,3]),(464,[2,3,5]),(3728,[2,3,5]),(60,[2,3]),(3730,[2,3,5]),(976,[2,3,7]),(59696,[2,3,5,6]),(3912,[2,3,7]),(238792,[2,3,5,6]),(467,[2,3,5]),(979,[2,3,7]),(59699,[2,3,5,6])],[],false,12,[]⟩,n_,n_,n_,n_,n_,⟨[(2,[0,1,2,3,4]),(28,[1,2,3,4,5]),(60,[1,2,3,4,5]),(488,[1,2,3,4,5,56,57,58]),(7832,[1,2,3,4,5,56,57,58]),(124,[1,2,3,4,5]),(1959,[1,2,3,4,5,56,57,58]),(126,[1,2,3,4,5]),(1020,[1,2,3,4,5,17]),(8168,[1,2,3,5,17,87,88,89]),(130712,[1,2,3,5,17,87,88,89]),(1022,[1,2,3,5,17]),(32679,[1,2,3,5,17,87,88,89]),(32744,[1,2,22,115,116]),(523928,[1,2,22,115,116])],[],false,83076750510269766970138583269113888,[(25,[(0,10),(1,10),(2,10),(6,5)])]⟩,n_,n_,n_]
def s9:List FT:=[n_,n_,n_,n_,n_,⟨[(2,[0]),(232,[3,6,7,8]),(3736,[3,6,7,8])],[],false,320,[]⟩,⟨[(2,[0]),(208,[1,3]),(840,[1,3]),(211,[1,3])],[],false,2,[]⟩,n_,n_,n_,⟨[(2,[0,1,2]),(28,[0,1,2]),(30,[0,1,2])],[],false,0,[]⟩,⟨[(2,[0,1]),(28,[1,2]),(30,[1,2])],[],false,4,[]⟩,⟨[(2,[0,1])],[],false,0,[]⟩,⟨[(2,[0]),(14,[1]),(62,[1,5]),(2024,[7,33,34]),(32408,[7,33,34])],[],false,17179869186,[(7,[(0,8),(1,8)])]⟩,⟨[(2,[0,1,2]),(30,[2,7])],[],false,0,[]⟩,⟨[(2,[0,1]),(28,[0,1]),(232,[0,1,30,31,32]),(3736,[0,1,30,31,32]),(30,[0,1]),(935,[0,1,30,31,32]),(126,[0,1,8]),(4072,[10,57,58,59]),(65176,[10,57,58,59]),(16295,[10,57,58,59])],[],false,720575945747988480,[]⟩]
def s5:List FT:=[⟨[(2,[0]),(14,[1]),(488,[1,5,19,20]),(7832,[1,5,19,20]),(125336,[1,5,6,19,20,23]),(2005400,[1,5,6,19,20,23]),(1959,[1,5,19,20]),(8021607,[1,5,6,7,8,19,20,23])],[],false,9437186,[]⟩,n_,n_,n_,n_,⟨[(2,[0])],[],false,2,[]⟩,n_,⟨[(2,[0]),(28,[1]),(60,[1]),(488,[21,22,23]),(7832,[21,22,23]),(1959,[21,22,23])],[],false,10485826,[]⟩,⟨[(2,[0,1])],[],false,0,[]⟩,⟨[(2,[0,1])],[],false,0,[]⟩,⟨[(2,[0,34,35]),(14,[0,2,3,34,35]),(488,[2,3,6,19,20,21,34,35]),(7832,[2,3,6,19,20,21,34,35]),(2005352,[6,34,35])],[(501338,[6,34,35])],true,2621760,[(13,[(0,5)])]⟩,⟨[(2,[0]),(214,[3]),(862,[3]),(3454,[3])],[],false,8,[]⟩,n_,⟨[(2,[0,1])],[],false,0,[]⟩,⟨[(2,[0]),(110,[0,2,4,5]),(3552,[0,2,4]),(7108,[0,2,4]),(446,[0,2,4]),(28648,[2,4,11,63,64,65]),(28438,[2,4,7,8,9]),(458392,[2,4,11,63,64,65]),(7164,[2,4,11]),(14668596,[2,4]),(1833575,[2,4,11,14,63,64,65])],[],false,46116860184273895476,[]⟩,⟨[(2,[0,1]),(28,[0,1]),(464,[0,1,5]),(1864,[0,1,5]),(467,[0,1,5])],[],false,0,[]⟩]
def r9:List FT:=[⟨[(2,[0]),(30,[0,5]),(2000,[0,5,6,7]),(8008,[0,5,6,7]),(128156,[5,6,7,9,11]),(128158,[5,6,7,9,11])],[],false,2048,[]⟩,n_,n_,n_,n_,⟨[(2,[0]),(1768,[3,4,22,23]),(28312,[3,4,22,23]),(226508,[]),(7079,[3,4,22,23])],[],false,8388618,[]⟩,⟨[(2,[0])],[],false,0,[]⟩,⟨[(2,[0]),(28,[0]),(232,[0,10,11,12]),(3736,[0,10,11,12]),(935,[0,10,11,12])],[],false,5152,[]⟩,⟨[(2,[0,1,2]),(104,[0,1,9,10,11]),(1688,[0,1,9,10,11]),(423,[0,1,9,10,11])],[],false,2560,[]⟩,⟨[(2,[0]),(14,[1]),(488,[1,5,20,21]),(7832,[1,5,20,21])],[],false,2097154,[]⟩,⟨[(2,[0])],[],false,0,[]⟩,⟨[(2,[0])],[],false,0,[]⟩,⟨[(2,[0,1])],[],false,0,[]⟩,n_,n_,n_]
def sv:List FT:=[n_,n_,n_,n_,n_,n_,⟨[(2,[0])],[],false,0,[]⟩,⟨[(2,[0,1]),(214,[0,1,12]),(14,[0,1]),(488,[0,1,5]),(124,[0,1,5]),(978,[]),(245,[0,1,5]),(1000,[0,1,5,39,40,41]),(16024,[0,1,5,39,40,41]),(126,[0,1,5]),(128202,[]),(32051,[0,1,5,7,39,40,41]),(16360,[1,8,63,64,65]),(261784,[1,8,63,64,65])],[],false,46116862933052952832,[]⟩,n_,n_,⟨[(2,[0,1])],[],false,0,[]⟩,⟨[(2,[0,1])],[],false,0,[]⟩,⟨[(2,[0,1]),(14,[0,1]),(62,[0,6,7])],[],false,0,[]⟩,⟨[(2,[0])],[],false,0,[]⟩,⟨[(2,[0,1,2]),(28,[0,1,5]),(30,[0,1,5])],[],false,32,[]⟩,⟨[(2,[0])],[],false,0,[]⟩]
def sy:List FT:=[n_,n_,n_,n_,n_,n_,n_,⟨[(2,[0])],[],false,0,[]⟩,⟨[(2,[0,1,2,3]),(28,[0,1,2,3]),(60,[0,1,2,3]),(122,[0,1,2]),(62,[0,1,2,3]),(16352,[0,1,2,3,9,10]),(32708,[0,1,2,3,9,10]),(2046,[0,9,10]),(130838,[0,1,2,3,9,10,11])],[],false,0,[]⟩,⟨[(2,[0]),(14,[0,2]),(62,[0,2,5]),(508,[0,2])],[],false,4,[(13,[(1,6),(2,6)])]⟩,⟨[(2,[0,1])],[],false,0,[]⟩,⟨[(2,[0]),(62,[0,6,7]),(2024,[0,6,7,8,35,36,37]),(32408,[0,6,7,8,35,36,37]),(254,[0,6,7,8])],[],false,171798692096,[]⟩,⟨[(2,[0]),(60,[2,4,5]),(976,[2,4,5,7]),(7824,[2,4,5,7]),(979,[2,4,5,7]),(31302,[2,4,5,7]),(125214,[2,4,5,7])],[],false,4,[]⟩,n_,⟨[(2,[0,1])],[],false,0,[]⟩,⟨[(2,[0]),(62,[2,4,5]),(2024,[2,4,5,27,28]),(32408,[2,4,5,27,28]),(259276,[2,4,5,7,27,28]),(259278,[2,4,5,7,27,28]),(1037118,[2,4,5,7,8,27,28])],[],false,268435492,[(13,[(5,4),(6,4),(7,4)])]⟩]
def sb:List FT:=[⟨[(2,[0,1,14,15]),(26,[2,3,4,14,15]),(1768,[3,5,14,15])],[(442,[3,5,14,15])],true,36,[]⟩,n_,n_,n_,n_,n_,n_,n_,n_,n_,n_,n_,n_,n_,n_,n_]
def sx:List FT:=[n_,n_,n_,n_,n_,n_,⟨[(2,[0])],[],false,0,[]⟩,⟨[(2,[0,1]),(26,[]),(14,[0,1])],[],false,0,[(3,[(5,4),(6,4),(7,4),(8,4),(9,4),(11,4)])]⟩,n_,⟨[(2,[0,1])],[],false,0,[]⟩,⟨[(2,[0,1])],[],false,0,[]⟩,⟨[(2,[0,1]),(14,[0,1])],[],false,0,[]⟩,⟨[(2,[0])],[],false,0,[]⟩,n_,n_,n_]
def su:List FT:=[n_,n_,n_,n_,n_,n_,n_,n_,n_,n_,n_,n_,n_,n_,n_,⟨[(2,[0,1]),(24,[0,1,11,12]),(408,[0,1,11,12]),(103,[0,1,11,12])],[],false,4096,[]⟩]
def nr:List FT:=[⟨[(2,[0,1]),(2000,[0,1,6,7]),(58,[0,5]),(30,[0,1]),(8008,[0,1,6,7]),(252,[0,1,6]),(506,[0,1,6])],[],false,0,[]⟩,⟨[(2,[0,1])],[],false,0,[]⟩,⟨[(2,[0,1])],[],false,0,[]⟩,⟨[(2,[0,1])],[],false,0,[]⟩,⟨[(2,[0,1]),(104,[0,1,7,8]),(1688,[0,1,7,8]),(423,[0,1,7,8])],[],false,256,[]⟩,⟨[(2,[0]),(488,[5,6,14,15,16]),(7832,[5,6,14,15,16]),(31335,[5,6,9,14,15,16])],[],false,81920,[]⟩,⟨[(2,[])],[],false,0,[]⟩,n_,⟨[(2,[0,1])],[],false,0,[]⟩,⟨[(2,[0]),(104,[0,4]),(1688,[0,4]),(423,[0,4])],[],false,16,[]⟩,⟨[(2,[0])],[],false,0,[]⟩,⟨[(2,[0])],[],false,0,[]⟩,⟨[(2,[0,1,2]),(214,[1,2,7]),(862,[1,2,7]),(3454,[1,2,7]),(13822,[1,2,7])],[],false,128,[]⟩,n_,n_,n_]
def ph:List FT:=[n_,n_,n_,n_,n_,n_,n_,n_,n_,n_,n_,n_,⟨[(2,[0])],[],false,0,[]⟩,⟨[(2,[0])],[],false,0,[]⟩,n_,⟨[(2,[0,1]),(104,[0]),(14,[0,1]),(106,[0]),(1722,[0,5,6]),(862,[0,5,6]),(27636,[5,7])],[],false,32,[]⟩]
def qz:List FT:=[n_,⟨[(2,[0,1])],[],false,4,[]⟩,n_,n_,n_,n_,n_,n_,n_,n_,n_,n_,n_,n_,n_,n_]
def q5:List FT:=[n_,n_,n_,n_,n_,n_,n_,n_,n_,n_,n_,n_,n_,n_,n_,n_]
def qu:List FT:=[n_,n_,n_,n_,n_,n_,n_,n_,n_,n_,⟨[(2,[])],[],false,192,[]⟩,n_,n_,n_,n_,n_]
def nq:List FT:=[n_,n_,n_,n_,n_,n_,⟨[(2,[0])],[],false,0,[]⟩,n_,⟨[(2,[0,1,2,3,4]),(214,[0,1,2,3,4,11]),(862,[0,1,2,3,4,11]),(3454,[0,1,3,4,11])],[],false,2048,[]⟩,n_,n_,n_,n_,n_,n_,n_]
def qf:List FT:=[n_,n_,n_,n_,n_,n_,n_,n_,n_,⟨[(2,[0]),(52,[0]),(28,[0,2]),(116,[0,2])],[],false,0,[]⟩,⟨[(2,[0]),(52,[0]),(28,[0,2]),(116,[0,2]),(60,[0,2]),(244,[0,2])],[],false,0,[]⟩,⟨[(2,[0])],[],false,0,[]⟩,⟨[(2,[0])],[],false,0,[]⟩,⟨[(2,[0,1]),(96,[0,1,4]),(196,[0,1,4]),(14,[0,1,4]),(244,[0,4,12]),(124,[0,4,12]),(500,[0,4,12]),(126,[0,4,12])],[],false,0,[(7,[(3,14),(4,14),(5,14),(9,14),(10,14)]),(8,[(3,14),(4,14),(5,14),(9,14),(10,14)]),(9,[(3,14),(4,14),(5,14),(9,14),(10,14)]),(10,[(3,14),(4,14),(5,14),(9,14),(10,14)]),(17,[(3,14),(4,14),(5,14),(9,14),(10,14)]),(18,[(3,14),(4,14),(5,14),(9,14),(10,14)]),(23,[(3,14),(4,14),(5,14),(9,14),(10,14)])]⟩,⟨[(2,[0,1,2,3,4]),(26,[]),(14,[0,1,2,3,4,10,11]),(250,[0,1,2,3,4,10,11,12,13]),(252,[0,1,2,3,4,10,11,12,13]),(1012,[0,1,2,3,4,10,11,12,13]),(1014,[0,1,2,3,4,10,11,12,13]),(129760,[0,1,3,4,10,11,12,13,14,15,16]),(32480,[0,1,3,4,10,11,12,13,17]),(259524,[0,1,3,4,10,11,12,13,14,15,16]),(16222,[0,1,3,4,10,11,12,13]),(64964,[0,1,3,4,10,11,12,13,17]),(4062,[0,1,3,4,10,11,12,13]),(2036,[0,4,10,11,12,13]),(1020,[0,4,10,11,12,13])],[],false,4096,[]⟩,n_]
def qp:List FT:=[n_,⟨[(2,[0])],[],false,0,[]⟩,⟨[(2,[0])],[],false,0,[]⟩,n_,n_,n_,n_,n_,n_,n_,n_,n_,n_,n_,n_,n_]
def nc:List FT:=[n_,n_,n_,n_,n_,n_,n_,n_,n_,n_,n_,n_,n_,n_,n_,n_]
def py:List FT:=[n_,n_,n_,n_,n_,n_,n_,n_,n_,n_,⟨[(2,[0])],[],false,0,[]⟩,⟨[(2,[0,1]),(2000,[0,1,5,6,7,8,9]),(4004,[0,1,5,6,7,8,9]),(252,[0,1,5,6,7,8]),(508,[0,1,5,6,7,8]),(8144,[0,1,5,6,7,8,10]),(16292,[0,1,5,6,7,8,10])],[],false,0,[]⟩,⟨[(2,[0,1,2]),(14,[0,1,2]),(490,[0,1,2,8]),(982,[0,1,2,8,16]),(1020,[2,8,9]),(2042,[8,9]),(1022,[2,8,9]),(3932,[0,1,2]),(62,[0,1,2,8]),(8188,[8,9,10]),(8190,[8,9]),(65530,[11])],[],false,65536,[]⟩,⟨[(2,[0,1])],[],false,0,[(1,[(0,7),(3,2)])]⟩,⟨[(2,[0,1])],[],false,0,[(1,[(0,7),(3,2)])]⟩,⟨[(2,[0,1,2])],[],false,0,[]⟩]
def pk:List FT:=[⟨[(2,[0,1,2])],[],false,0,[]⟩,n_,n_,n_,n_,n_,n_,n_,n_,n_,⟨[(2,[0])],[],false,0,[]⟩,⟨[(2,[0])],[],false,2101256,[]⟩,n_,n_,⟨[(2,[0])],[],false,0,[]⟩,⟨[(2,[0])],[],false,0,[]⟩]
def qn:List FT:=[⟨[(2,[0])],[],false,0,[]⟩,⟨[(2,[0])],[],false,0,[]⟩,n_,⟨[(2,[0])],[],false,0,[]⟩,⟨[(2,[0])],[],false,0,[]⟩,⟨[(2,[1])],[],false,0,[]⟩,n_,n_,n_,n_,n_,n_,n_,n_,n_,n_]
def o7:List FT:=[n_,n_,n_,n_,n_,n_,n_,n_,n_,n_,n_,n_,n_,n_,⟨[(2,[0]),(464,[0,4,5]),(932,[0,4,5]),(30,[0,4]),(2000,[4,6,7,8]),(16016,[4,6,7,8]),(32034,[4,6,7,8]),(8009,[4,6,7,8])],[],false,0,[]⟩,n_]
def qw:List FT:=[n_,⟨[(2,[0])],[],false,0,[]⟩,n_,n_,n_,n_,n_,n_,⟨[(2,[0])],[],false,0,[]⟩,⟨[(2,[0])],[],false,0,[]⟩,⟨[(2,[0,1,7]),(52,[2,7])],[(26,[2,7])],true,4,[]⟩,⟨[(2,[0,1,2,3]),(112,[0,1,2,3,8,9]),(908,[0,1,2,3,8,9,10]),(1820,[0,1,2,3,8,9,10]),(7284,[0,1,2,3,8,9,10]),(1822,[0,1,2,3,8,9,10]),(29172,[0,1,2,3,8,9,10,11]),(14588,[0,1,2,3,8,9,10,11,12]),(58356,[0,1,2,3,8,9,10,11]),(29180,[0,1,2,3,8,9,10,11]),(116724,[0,1,2,3,8,9,11]),(29182,[0,1,2,3,10,11]),(1867772,[0,1,2,3,9,14,16,18]),(1867774,[0,1,2,3,9,14,17,18])],[],false,0,[]⟩,n_,n_,⟨[(2,[0])],[],false,0,[]⟩,⟨[(2,[0]),(4064,[0,3,4,5]),(1012,[0]),(122,[0,3,4]),(62,[0,3,4]),(32528,[0,3,4,5]),(130116,[0,4,5]),(65060,[0,3,4,5]),(520488,[0,3,4,5]),(130124,[0,3,4,5]),(520490,[0,4,5]),(65063,[0,4,5])],[],false,0,[]⟩]
def nt:List FT:=[⟨[(2,[0,1,2]),(48,[0,1,2,6]),(200,[0,1,2,6]),(3216,[0,1,2,6,7]),(6436,[0,1,2,6,7]),(51,[0,1,2,6])],[],false,0,[(6,[(2,17),(3,17),(4,17)])]⟩,⟨[(2,[0,1,2]),(976,[0,6,7,8,9]),(1956,[0,6,7,8,9]),(62,[0,6,7,8]),(1008,[0,6,7,10]),(4040,[0,6,7,10])],[],false,0,[(10,[(2,19),(3,19),(4,19),(5,19)])]⟩,⟨[(2,[0,1,2]),(28,[0,1,6]),(1904,[0,1,6,7,8,9]),(7624,[0,1,6,7,8,9]),(61002,[0,1,6,7,8,9,10]),(15251,[0,1,6,7,8,9,10])],[],false,128,[(10,[(2,19),(3,19),(4,19),(5,19)])]⟩,⟨[(2,[0,1,2]),(4072,[0,8,9,10,11,12]),(510,[9,11]),(16292,[0,9,10,11,12]),(2037,[0,9,10,11,12]),(8182,[11,49])],[],false,562949953421824,[]⟩,⟨[(2,[0,1,2]),(112,[0,6,7]),(228,[0,6,7])],[],false,0,[(3,[(2,15),(3,15)])]⟩,⟨[(2,[0,1,2]),(464,[0,1,2,7,8]),(29824,[0,1,2,7,8]),(29826,[0,1,2,7,8]),(7460,[0,1,2,7,8]),(14924,[0,1,2,7,8]),(14926,[0,1,2,7,8]),(238836,[0,1,2,7,8]),(59710,[0,1,2,7,8]),(3821392,[0,1,2,7,8,9]),(238844,[0,1,2,7,8]),(467,[0,1,2,7,8]),(30571152,[0,1,2,7,8,9]),(3821520,[0,1,2,7,8,10]),(15285577,[0,1,2,7,8,9]),(30572176,[0,1,2,7,8,10]),(15286089,[0,1,2,7,8,10])],[],false,0,[(11,[(2,17),(3,17),(4,17)]),(17,[(2,17),(3,17),(4,17)]),(23,[(2,17),(3,17),(4,17)])]⟩,⟨[(2,[0,1])],[],false,0,[]⟩,⟨[(2,[0,1,2,3]),(7680,[0,1,9,10]),(7682,[0,1,9,10]),(15392,[0,1,9,10]),(15394,[0,1,9,10]),(3852,[0,1,9,10]),(3854,[0,1,9,10])],[],false,0,[(1,[(2,15),(3,15)]),(8,[(2,15),(3,15)])]⟩,⟨[(2,[0,1,2,3]),(480,[0,1,10,11]),(482,[0,1,10,11]),(992,[0,1,10,11]),(994,[0,1,10,11]),(252,[0,1,10,11]),(1012,[0,1,11]),(254,[0,1,10,11]),(523776,[0,1,10,11]),(523778,[0,1,10,11]),(1047584,[0,1,10,11]),(1047586,[0,1,10,11]),(261900,[0,1,10,11]),(4094,[0,1,11]),(261902,[0,1,10,11])],[],false,0,[(1,[(2,15),(3,15)]),(8,[(2,15),(3,15)]),(10,[(2,15),(3,15)]),(18,[(2,15),(3,15)]),(21,[(2,15),(3,15)])]⟩,⟨[(2,[0,1,2,3]),(48,[0,2,3,8]),(396,[0,2,3,8,9]),(794,[0,2,3,8,9]),(796,[0,2,3,8,9]),(798,[0,2,3,8,9])],[],false,0,[(6,[(4,23),(5,23),(6,23),(7,23)])]⟩,⟨[(2,[0,1,2])],[],false,0,[]⟩,⟨[(2,[0,1,2,3,4])],[],false,0,[]⟩,⟨[(2,[0,1,2,3]),(52,[1,2,3])],[],false,524288,[]⟩,n_,n_,n_]
def qk:List FT:=[n_,n_,n_,n_,n_,n_,n_,n_,n_,n_,n_,n_,n_,n_,n_,n_]
def q9:List FT:=[n_,n_,n_,n_,n_,n_,n_,n_,n_,n_,n_,n_,n_,n_,n_,n_]
def qq:List FT:=[n_,n_,n_,n_,n_,n_,n_,n_,n_,n_,n_,n_,n_,n_,n_,n_]
def TT:FuncId->FT:=q7 [sa,s0,s9,s5,r9,sv,sy,sb,sx,su,nr,ph,qz,q5,qu,nq,qf,qp,nc,py,pk,qn,o7,qw,nt,qk,q9,qq]
abbrev Dd (f:FuncId) (i:Nat) (a:List Nat) (Q:Value->AH->Prop) (vs:List Value) (h:AH):Prop:=Go.Ab.D Pr K TT f i a Q vs h
theorem cW {f:FuncId} {args:List Value} {Q:Value->AH->Prop} {h:AH} (a:wC Pr K TT f args Q h):Cl Pr K f args h Q:=Go.Ab.cW a
theorem cD {f:FuncId} {args:List Value} {Q:Value->AH->Prop} {h:AH} (a:nz Pr K TT f args Q h):Cl Pr K f args h Q:=Go.Ab.cD a
theorem rW {f:FuncId} {num m l d:Nat} {lv:List Nat} {vs args:List Value} {e:Nat->Value} {st:LoopState} {pd:Option Code} {Q:Value->AH->Prop} {h:AH} (g:h.get l=some (lp Pr f (yD num) m e d st pd)) (a:List.map e lv=vs)
  (k:ng Pr K TT f num m lv vs l args Q h):yC Pr K (.func (.yield l) #[] #[]) args h Q:=Go.Ab.rW g a k
end
end Go.Proofs.YtcjlkjeeifemhaaGreatDoor
section
open Go Go.Ab
attribute [local irreducible] aK Br vH sW vI tX iM tM gT Q2 qF uH sB mL mI eO rX vM Hb Oy K8 Kr N1 Hq Jd O5 Kq kK oK nZ gF copyV iP sL P0 Ha yK hQ Ku P1 Pn jL mP sA sN Cl yC Lu nO mZ fP eD aY aR
namespace Go.Proofs.YtcjlkjeeifemhaaGreatDoor
open Go Go.Ab Go.Is Go.At Go.Sc
section
theorem Lf {n:Int} (h:dN n):K 86 [I n]=some (.val (tx (Lib.itoa n))):=by
 show tK K0 12 (.bool true) 86 [I n]=_;unfold tK;rw[tt (by simp)];show(if _ then _ else _)=_;unfold dN at h;rw[tu h]
theorem zP {b o n c:Nat} {s:List UInt8}:K 87 [.slice (some ⟨b,o,none⟩) n c,tx s]=some (.host (D3 b o n c ⟨s.toArray⟩)):=by
 show tK K0 12 (.bool true) 87 _=_;unfold tK;rw[tt (by simp)];rfl
theorem C9 {l:List Int} {i:Nat} {x:Int} (a:l[i]?=some x):((l.take i).map Lib.itoa).map tx++[tx (Lib.itoa x)]=((l.take (i+1)).map Lib.itoa).map tx:=by
 rw[List.take_add_one,a];simp
set_option maxRecDepth 100000
variable {G:Bg} {h:AH} {L L' M:List HP} {Q:Value->AH->Prop}
theorem pU (a:Q (.bool true) h):Cl Pr K 12 [] h Q:=by
 unfold Cl;exact jX (v:= .bool true) rfl a
theorem uM {n:Int} (e:dN n) (a:Q (tx (Lib.itoa n)) h):Cl Pr K 86 [I n] h Q:=by
 unfold Cl;exact jX (Lf e) a
theorem Ll {a:Option Addr} {c:Nat} {l:List Int} (w:∀v∈l,dN v) (B:0<l.length) (hle:l.length<=100) (g:Hs G h (cB 1 3 a c (l.length,l.map I)::L)) (F:∀u,Hs G u L->Q (tx (jO l)) u):
  Cl Pr K 37 [.slice a l.length c] h Q:=by
 have loop:∀(f i:Nat) (k:Option Addr) (c2:Nat) (h:AH),i+f=l.length->Hs G h (cB 1 9 k c2 (i,((l.take i).map Lib.itoa).map tx)::cB 1 3 a c (l.length,l.map I)::L)->
   Dd 37 1 [] Q [.slice k i c2,.slice a l.length c,I l.length,I i] h:=by
  intro f
  induction f with
  |zero=>
   intro i k c2 h E g
   obtain rfl:i=l.length:=by omega
   rw[List.take_length] at g
   have y:=mR w
   refine bW (aI (aaa (Om (l:=l.map Lib.itoa) (s:=[32]) (e:=9) (fun b o=>zP) (by simp) B (by omega) ?_ g fun h g=>?_)))
   .rw[pD];show(jO l).length<=_;omega
   .rw[pD];exact F h g.tail.tail
  |succ f J=>
   intro i k c2 h E g
   obtain⟨x,q,N⟩:∃x,l[i]?=some x/\True:=⟨l[i],List.getElem?_eq_getElem (by omega),trivial⟩
   have t:=w x (List.mem_of_getElem? q)
   have D:(l.map I)[i]?=some (I x):=by rw[List.getElem?_map,q];rfl
   refine bW (aI (aad (bW (gU (a:=a) (c:=c) (e:=3) g D (uM t (bG (c:=[tx (Lib.itoa x)]) rfl (fS (W:=1) (n:=1) (c:=1) g rfl rfl rfl fun a3 h g=>?_)))))))
   refine pA (a:=k) (c:=c2) (n:=i) (cs:=((l.take i).map Lib.itoa).map tx) (a2:=some a3) (c2:=1) (m:=1) (ns:=[tx (Lib.itoa x)]) g (by omega) fun z A h g=>?_
   rw[C9 q] at g
   exact aac (J (i+1) z A h (by omega) g.to)
 refine cW (cM (loop l.length 0 none 0 h (by omega) ?_))
 exact eU g
end
end Go.Proofs.YtcjlkjeeifemhaaGreatDoor
end
namespace Go.Proofs.YtcjlkjeeifemhaaGreatDoor
open Go Go.Ab Go.Is Go.At Go.Sc
section
theorem Mj {b:Nat}:K 102 [pt b 0 0]=some (.host (Bc 141 b)):=by
 show tK K0 12 (.bool true) 102 _=_;unfold tK;rw[tt (by simp)];rfl
theorem Bf {b:Nat}:K 60 [pt b 0 0]=some (.host (xP 141 5 b)):=by
 show tK K0 12 (.bool true) 60 _=_;unfold tK;rw[tt (by simp)];rfl
section
variable {G:Bg} {h:AH} {L:List HP}
abbrev sQ (b:Nat) (l:List UInt8):HP:=B9 fun x:Value×(Option Addr×Nat)=>sp [Kw (x.1= .pointer none\/x.1=pt b 0 0),aM b 0 [x.1,.slice x.2.1 l.length x.2.2],mt b (141,true,2),cB 1 5 x.2.1 x.2.2 (l.length,l.map Ca)]
theorem Sw {k:Nat->AH->Prop} (g:Hs G h L) (f:∀p a,Hs G a (sQ p []::L)->k p a):tX h (.cells [.pointer none,.slice none 0 0] 141 (0,0) true) k:=by
 have t:=g.new (c:=[.pointer none,.slice none 0 0]) (e:=141) (x:=true);have t:Hs G _ (aM h.next 0 [.pointer none,.slice none 0 0]::mt h.next (141,true,2)::L):=t;have t:=eU (W:=1) (e:=5) t;have t:=t.perm (List.Perm.trans (List.Perm.swap _ _ _) (List.Perm.cons _ (List.Perm.swap _ _ _)));have t:=mN (show(Value.pointer none= .pointer none\/Value.pointer none=pt h.next 0 0) from .inl rfl) t.Xm;exact f _ _ (Hs.B8 (A:=fun x:Value×(Option Addr×Nat)=>sp [Kw (x.1= .pointer none\/x.1=pt h.next 0 0),aM h.next 0 [x.1,.slice x.2.1 ([]:List UInt8).length x.2.2],mt h.next (141,true,2),cB 1 5 x.2.1 x.2.2 (([]:List UInt8).length,([]:List UInt8).map Ca)]) (.pointer none,(none,0)) t)
end
set_option maxRecDepth 100000
attribute [local irreducible] aK Br vH sW vI tX iM tM gT Q2 qF uH sB mL mI eO rX vM Hb Oy K8 Kr N1 Hq Jd O5 Kq kK oK nZ gF copyV iP sL P0 Ha yK hQ Ku P1 Pn jL mP sA sN Cl yC Lu nO mZ fP eD aY aR
variable {G:Bg} {h:AH} {L L' M:List HP} {Q:Value->AH->Prop}
theorem bq {s:List UInt8}:dM h 1 s.length (tx s)=some (s.map Ca):=by
 simp only[dM];rw[tu (by simp[ByteArray.size])];congr 1;have:((⟨s.toArray⟩:ByteArray).extract 0 s.length).data.toList=s:=by
  rw[ByteArray.data_extract];simp
 rw[this]
theorem dz {a:Option Addr} {c:Nat} {l s:List UInt8} {k:Value×AH->Prop} (v:l.length+s.length<=1000000) (u:Hs G h (cB 1 5 a c (l.length,l.map Ca)::L)) (t:∀f g q,Hs G q (cB 1 5 f g (l.length+s.length,l.map Ca++s.map Ca)::L)->k (.slice f (l.length+s.length) g,q)):
  aK (gF 1 1 5 h (.slice a l.length c) (tx s)) k:=
 Sz (W:=1) (bytes:=1) (e:=5) (a:=a) (c:=c) (n:=l.length) (m:=s.length) (cs:=l.map Ca) (ns:=s.map Ca) (k:=fun x y=>k (x,y)) (L':=L) u (by simp[pT,ByteArray.size]) bq (by rw[List.all_map];simp[cT]) (by simp) (by omega) t
theorem nD {b:Nat} {l s:List UInt8} (t:l.length+s.length<=1000000) (e:Hs G h (sQ b l::L)) (q:∀k,Hs G k (sQ b (l++s)::L)->Q (.tuple ⟨[I s.length,.nilIface]⟩) k):
  Cl Pr K 56 [pt b 0 0,tx s] h Q:=by
 obtain⟨⟨p,a,c⟩,e⟩:=Hs.Wd e
 obtain⟨u,e⟩:=iQ e
 have e:=e.Wo
 refine cW (Xl Mj u e fun h e=>bI (aB (am b e (v:= .slice a l.length c) rfl ?_)))
 have e:=e.front (cB 1 5 a c (l.length,l.map Ca))
 refine dz t e fun f g h e=>?_
 refine bI (aB (dL (b:=b) (o:=0) (j:=1) (c:=[pt b 0 0,.slice a l.length c]) (vs:=[.slice f (l.length+s.length) g]) e rfl rfl rfl rfl fun h e=>pC (q h ?_)))
 have e:Hs G h (aM b 0 [pt b 0 0,.slice f (l.length+s.length) g]::cB 1 5 f g (l.length+s.length,l.map Ca++s.map Ca)::mt b (141,true,2)::L):=e
 rw[<-List.map_append,<-List.length_append] at e
 have e:=(e.perm (List.Perm.cons _ (List.Perm.swap _ _ _))).Xm
 have e:=mN (show(pt b 0 0= .pointer none\/pt b 0 0=pt b 0 0) from .inr rfl) e
 exact Hs.B8 (A:=fun x:Value×(Option Addr×Nat)=>sp [Kw (x.1= .pointer none\/x.1=pt b 0 0),aM b 0 [x.1,.slice x.2.1 (l++s).length x.2.2],mt b (141,true,2),cB 1 5 x.2.1 x.2.2 ((l++s).length,(l++s).map Ca)]) (pt b 0 0,(f,g)) e
theorem Ps {b:Nat} {l:List UInt8} (g:0<l.length) (q:l.length<=1000000) (e:Hs G h (sQ b l::L)) (k:∀f,Hs G f L->Q (tx l) f):Cl Pr K 60 [pt b 0 0] h Q:=by
 obtain⟨⟨p,a,c⟩,e⟩:=Hs.Wd e;obtain⟨t,e⟩:=iQ e;exact Y3 (u:=5) Bf g q e.Wo fun h e=>k h e.tail.tail
theorem yM {a:Option Addr} {c:Nat} {w:List UInt8} {l:List Int} (q:∀v∈l,dN v) (x:w.length<=1000) (hle:l.length<=100) (g:Hs G h (cB 1 3 a c (l.length,l.map I)::L)) (f:∀k,Hs G k L->Q (tx (kH w l)) k):
  Cl Pr K 57 [tx w,.slice a l.length c] h Q:=by
 unfold kH at f
 refine cW (cM (dH (bK (fun e=>?_) (fun e=>?_))))
 .have:l=[]:=List.length_eq_zero_iff.1 (by omega);rw[tu this] at f;exact kA (b:=[10]) (by simp;omega) (f h g.tail)
 .have:l≠[]:=fun t=>e (by rw[t];rfl);rw[tt this] at f;have u:=mR q;exact kA (b:=[32]) (by simp;omega) (Ll q (by omega) hle g fun h g=>kA (by simp;omega) (kA (b:=[10]) (by simp;omega) (f h g)))
theorem F0 {w:Int} (a:Q (tx (cL w)) h):Cl Pr K 59 [I w] h Q:=by
 unfold cL at a;refine cW (dH (bK (fun c0=>?_) (fun c0=>?_)));rwa [tu c0] at a;rw[tt c0] at a;refine bW (dH (bK (fun e=>?_) (fun e=>?_)));rwa [tu e] at a;rw[tt e] at a;refine bW (dH (bK (fun c2=>?_) (fun c2=>?_)));rwa [tu c2] at a;rw[tt c2] at a;refine bW (dH (bK (fun c3=>?_) (fun c3=>?_)));rwa [tu c3] at a;rwa [tt c3] at a
end
end Go.Proofs.YtcjlkjeeifemhaaGreatDoor
section
open Go Go.Ab
attribute [local irreducible] aK Br vH sW vI tX iM tM gT Q2 qF uH sB mL mI eO rX vM Hb Oy K8 Kr N1 Hq Jd O5 Kq kK oK nZ gF copyV iP sL P0 Ha yK hQ Ku P1 Pn jL mP sA sN Cl yC Lu nO mZ fP eD aY aR
namespace Go.Proofs.YtcjlkjeeifemhaaGreatDoor
open Go Go.Ab Go.Is Go.At Go.Sc Go.Mc
section
set_option maxRecDepth 100000
variable {G:Bg} {h:AH} {L L' M:List HP} {Q:Value->AH->Prop}
theorem Jz {b:Nat} {lv:Value} {l:List Do} {t:List UInt8} (A:eJ G 4 lv l.length (fun i=>(l.map Do.enc).getD i [])) (E:∀d∈l,Sg d) (X:l.length<=1000) (Y:t.length<=100000) (U:0<t.length)
  (P:∀J,Hs G J L->Q (.tuple ⟨[tx (t++pM l),I 0]⟩) J):
  ∀(f i:Nat) (h:AH),i+f=l.length->Hs G h (sQ b (t++pM (l.take i))::L)->Dd 20 6 [] Q [pt b 0 0,lv,I l.length,I i] h:=by
 have K:=yV E
 intro f
 induction f with
 |zero=>
  intro i h O g
  obtain rfl:i=l.length:=by omega
  rw[List.take_length] at g
  refine bW (aI (aaa (Ps (by simp;omega) (by simp;omega) g fun h g=>P h g)))
 |succ f y=>
  intro i h O g
  obtain⟨d,F,_⟩:∃d,l[i]?=some d/\True:=⟨l[i],List.getElem?_eq_getElem (by omega),trivial⟩
  have q:=E d (List.mem_of_getElem? F)
  have S:(pM (l.take i)).length<=71000:=by
   have:=yV (l:=l.take i) fun d A=>E d (List.mem_of_mem_take A);have V:(l.take i).length<=1000:=by rw[List.length_take];omega
   omega
  have R:=Uq q
  have Z:=qW (w:=d.what)
  have B:=V7 F
  have y:=fun h g=>y (i+1) h (by omega) g
  rw[<-B,<-List.append_assoc] at y
  obtain⟨r0,r1,r2,r3⟩:=q
  have g:=eV (W:=4) (e:=52) (l:=l.map Do.enc) (by simp[Do.enc]) (by simpa using A) g
  refine bW (aI (aad (bW (E5 g (by decide) (x:=d.enc) (by simp[F]) (eN g.tail fun p h g=>ax (b:=p) g fun h g=>aB (am p g (v:=I d.what) rfl (dH (bK (fun z=>bW ?_) (fun z=>bW ?_)))))))))
  .refine dW g fun T h g=>aB (am p g (v:=I d.what) rfl (F0 ?_));have k:=g;refine aB (am p g (v:=I d.a) rfl (aB (am p g (v:=I d.b) rfl (aB (am p g (v:=I d.c) rfl (bG (c:=[I d.a,I d.b,I d.c]) rfl ?_))))));refine qN (W:=1) (i:=9) (N:=12) (D:=[]) (n:=3) (c:=3) g rfl rfl rfl rfl rfl fun a h g=>?_;refine yM (l:=[d.a,d.b,d.c]) (a:=some a) (c:=3) (by intro v u;simp at u;rcases u with rfl|rfl|rfl<;>assumption) (by omega) (by show 3<=100;omega) g fun h g=>?_;have e:kH (cL d.what) [d.a,d.b,d.c]=Si d:=by unfold Si;rw[tu z]
   rw[e]
   have g:=g.front (sQ b (t++pM (l.take i)))
   refine nD (by simp;omega) g fun h g=>?_
   refine nN (aB xR) (nN (am p k (v:=I d.a) rfl C6) (nN (aB xR) (nN (am p k (v:=I d.b) rfl C6) (nN (aB xR) (nN (am p k (v:=I d.c) rfl C6) (aac ?_))))))
   exact y h g.to
  .refine dW g fun T h g=>aB (am p g (v:=I d.what) rfl (F0 ?_));have k:=g;refine aB (am p g (v:=I d.a) rfl (bG (c:=[I d.a]) rfl ?_));refine qN (W:=1) (i:=5) (N:=8) (D:=[]) (n:=1) (c:=1) g rfl rfl rfl rfl rfl fun a h g=>?_;refine yM (l:=[d.a]) (a:=some a) (c:=1) (by intro v u;simp at u;rcases u with rfl;assumption) (by omega) (by show 1<=100;omega) g fun h g=>?_;have e:kH (cL d.what) [d.a]=Si d:=by unfold Si;rw[tt z]
   rw[e]
   have g:=g.front (sQ b (t++pM (l.take i)))
   refine nD (by simp;omega) g fun h g=>?_
   refine nN (aB xR) (nN (am p k (v:=I d.a) rfl C6) (aac ?_))
   exact y h g.to
end
section
set_option maxRecDepth 100000
variable {G:Bg} {h:AH} {L L' M:List HP} {Q:Value->AH->Prop}
abbrev iW (l:List Int):List (List Value):=l.map fun x=>[I x]
theorem I0 {v:Value} {l:List Int} (w:∀v∈l,dN v) (D:0<l.length) (hle:l.length<=100) (g:Hs G h (lX G 1 3 v (iW l)::L)) (F:∀u,Hs G u L->Q (tx (jO l)) u):
  Cl Pr K 37 [v] h Q:=by
 obtain⟨a,c,z⟩:=gO g
 rw[List.length_map] at z
 subst z
 have loop:∀(f i:Nat) (k:Option Addr) (c2:Nat) (h:AH),i+f=l.length->Hs G h (lX G 1 3 (.slice a l.length c) (iW l)::cB 1 9 k c2 (i,((l.take i).map Lib.itoa).map tx)::L)->
   Dd 37 1 [] Q [.slice k i c2,.slice a l.length c,I l.length,I i] h:=by
  intro f
  induction f with
  |zero=>
   intro i k c2 h E g
   obtain rfl:i=l.length:=by omega
   rw[List.take_length] at g
   have y:=mR w
   refine bW (aI (aaa (Om (l:=l.map Lib.itoa) (s:=[32]) (e:=9) (fun b o=>zP) (by simp) D (by omega) ?_ g.tail fun h g=>?_)))
   .rw[pD];show(jO l).length<=_;omega
   .rw[pD];exact F h g.tail
  |succ f J=>
   intro i k c2 h E g
   obtain⟨x,q,N⟩:∃x,l[i]?=some x/\True:=⟨l[i],List.getElem?_eq_getElem (by omega),trivial⟩
   have t:=w x (List.mem_of_getElem? q)
   refine bW (aI (aad (bW (fZ g (x:=[I x]) (by rw[List.getElem?_map,q];rfl) rfl (uM t (bG (c:=[tx (Lib.itoa x)]) rfl (fS (W:=1) (n:=1) (c:=1) g rfl rfl rfl fun a3 h g=>?_)))))))
   refine pA (a:=k) (c:=c2) (n:=i) (cs:=((l.take i).map Lib.itoa).map tx) (a2:=some a3) (c2:=1) (m:=1) (ns:=[tx (Lib.itoa x)]) g (by omega) fun A B h g=>?_
   rw[C9 q] at g
   exact aac (J (i+1) A B h (by omega) g.to)
 refine cW (cM (loop l.length 0 none 0 h (by omega) ?_))
 exact(eU (W:=1) (e:=9) g).perm (List.Perm.swap _ _ _)
theorem Iz {v:Value} {w:List UInt8} {l:List Int} (q:∀v∈l,dN v) (y:w.length<=1000) (hle:l.length<=100) (g:Hs G h (lX G 1 3 v (iW l)::L)) (f:∀k,Hs G k L->Q (tx (kH w l)) k):
  Cl Pr K 57 [tx w,v] h Q:=by
 obtain⟨a,c,t⟩:=gO g
 rw[List.length_map] at t
 subst t
 unfold kH at f
 refine cW (cM (dH (bK (fun e=>?_) (fun e=>?_))))
 .have:l=[]:=List.length_eq_zero_iff.1 (by omega);rw[tu this] at f;exact kA (b:=[10]) (by simp;omega) (f h g.tail)
 .have:l≠[]:=fun u=>e (by rw[u];rfl);rw[tt this] at f;have x:=mR q;exact kA (b:=[32]) (by simp;omega) (I0 q (by omega) hle g fun h g=>kA (by simp;omega) (kA (b:=[10]) (by simp;omega) (f h g)))
end
end Go.Proofs.YtcjlkjeeifemhaaGreatDoor
namespace Go.Proofs.YtcjlkjeeifemhaaGreatDoor
open Go Go.Ab Go.Hm Go.Is Go.At Go.Sc Go.Mc
section
def jY (C:aZ) (e f ov vv a:Value):List Value:=C.enc++[e,f,ov,vv,a]
theorem Ja {C:aZ} {os vs:List Int} (a:∀v∈rY C,dN v) (e:∀v∈os,dN v) (f:∀v∈vs,dN v) (u:os.length<=100) (x:vs.length<=100):(nS C os vs).length<=5000:=by
 have g:=gG (w:=kO) a;have k:=gG (w:=kQ) e;have a3:=gG (w:=oY) f;have a4:(rY C).length=7:=rfl;have a5:kO.length=6:=rfl;have q:kQ.length=6:=rfl;have t:oY.length=5:=rfl;unfold nS;simp only[List.length_append] at*;omega
set_option maxRecDepth 100000
variable {G:Bg} {h:AH} {L L' M:List HP} {Q:Value->AH->Prop}
theorem E2 {p n:Nat} {C:aZ} {g z ov vv q:Value} {os vs:List Int} (u:∀v∈rY C,dN v) (x:∀v∈os,dN v) (y:∀v∈vs,dN v) (D:os.length<=100) (E:vs.length<=100)
  (N:eJ G 1 ov os.length (fun i=>(iW os).getD i [])) (K:eJ G 1 vv vs.length (fun i=>(iW vs).getD i [])) (J:∀{k:Value->Prop},k (I n)->aK (eO g) k)
  (f:Hs G h (aM p 0 (jY C g z ov vv q)::L)) (F:∀b t,Hs G t (sQ b (nS C os vs)::aM p 0 (jY C g z ov vv q)::L)->Dd 20 2 [] Q [pt p 0 0,pt b 0 0,g,I n,I 0] t):
  Dd 20 1 [] Q [pt p 0 0] h:=by
 have A:=gG (w:=[99,111,110,102,105,103]) u
 have B:=gG (w:=[111,119,110,101,114,115]) x
 have a3:=gG (w:=[119,111,114,100,115]) y
 have a4:(rY C).length=7:=rfl
 simp only[List.length_cons,List.length_nil] at A B a3
 refine bW (Sw f fun b h f=>?_)
 refine aB (aB (aB (am p f (v:=I C.aS) rfl (aB (aB (aB (am p f (v:=I C.cH) rfl (aB (aB (aB (am p f (v:=I C.xW) rfl (aB (aB (aB (am p f (v:=I C.ways) rfl ?_)))))))))))))))
 refine aB (aB (aB (am p f (v:=I C.depth) rfl (aB (aB (aB (am p f (v:=I C.entries) rfl (aB (aB (aB (am p f (v:=I C.aF) rfl ?_)))))))))))
 refine bG (c:=C.enc) rfl (fS (W:=1) (n:=7) (c:=7) f rfl rfl rfl fun a h f=>?_)
 refine yM (l:=rY C) (a:=some a) (c:=7) u (by decide) (by rw[a4];omega) f fun h f=>?_
 have f:=f.front (sQ b [])
 refine nD (by simp;omega) f fun h f=>?_
 refine aB (aB (am p f (v:=ov) rfl ?_))
 have f:=eV (W:=1) (e:=3) (l:=iW os) (by simp[iW]) (by simpa [iW] using N) f
 refine Iz x (by decide) D f fun h f=>nD (by simp;omega) f fun h f=>?_
 refine aB (aB (am p f (v:=vv) rfl ?_))
 have f:=eV (W:=1) (e:=3) (l:=iW vs) (by simp[iW]) (by simpa [iW] using K) f
 refine Iz y (by decide) E f fun h f=>nD (by simp;omega) f fun h f=>?_
 exact aB (aB (am p f (v:=g) rfl (J (F b h f))))
end
section
theorem Nf {l:List (Int×List Ins)} {i:Nat} {x:Int×List Ins} (h:l[i]?=some x):fF (l.take i)++pZ x.1 x.2=fF (l.take (i+1)):=by
 rw[List.take_add_one,h];simp[fF]
theorem Vw {w:Int} {p:List Ins} (f:dN w) (k:(bN p).length<=5000):(pZ w p).length<=5100:=by
 have e:=gG (w:=mM) (l:=[w]) (by intro v a;simp at a;subst a;exact f);have g:mM.length=4:=rfl;simp only[List.length_cons,List.length_nil] at e;unfold pZ;simp only[List.length_append,List.length_cons,List.length_nil];omega
theorem rN:∀{l:List (Int×List Ins)},(∀x∈l,dN x.1/\(bN x.2).length<=5000)->(fF l).length<=5100*l.length
 |[],_=>by simp[fF]
 |x::l,h=>by
  have e:=Vw (h x List.mem_cons_self).1 (h x List.mem_cons_self).2;have f:=rN fun y a=>h y (List.mem_cons_of_mem _ a);have:fF (x::l)=pZ x.1 x.2++fF l:=rfl;rw[this];simp only[List.length_cons,List.length_append];omega
set_option maxRecDepth 100000
variable {G:Bg} {h:AH} {L L' M:List HP} {Q:Value->AH->Prop}
theorem Cg {p b nd:Nat} {C:aZ} {F J ov vv A:Value} {vi:List Value} {l:List (Int×List Ins)} {t:List UInt8} (Z:vi.length=l.length) (hn:l.length<=8) (ht:t.length<=5000) (R:∀x∈l,dN x.1/\(bN x.2).length<=5000)
  (N:eJ G 1 F (vi.map fun x=>[x]).length (fun i=>(vi.map fun x=>[x]).getD i [])) (O:eJ G 1 J (l.map (·.1)).length (fun i=>(iW (l.map (·.1))).getD i [])) (U:∀{k:Value->Prop},k (I nd)->aK (eO A) k)
  (T:∀(i:Nat) (v:Value) (x:Int×List Ins),vi[i]?=some v->l[i]?=some x->∀{h:AH} {L:List HP} {Q:Value->AH->Prop},Hs G h L->(∀B,Hs G B L->Q (.tuple ⟨[tx (bN x.2),I 0]⟩) B)->Cl Pr K 58 [v] h Q)
  (X:∀B,Hs G B (sQ b (t++fF l)::aM p 0 (jY C F J ov vv A)::L)->Dd 20 6 [] Q [pt b 0 0,A,I nd,I 0] B):
  ∀(f i:Nat) (h:AH),i+f=l.length->Hs G h (sQ b (t++fF (l.take i))::aM p 0 (jY C F J ov vv A)::L)->Dd 20 2 [] Q [pt p 0 0,pt b 0 0,F,I l.length,I i] h:=by
 intro f
 induction f with
 |zero=>
  intro i h V g
  obtain rfl:i=l.length:=by omega
  rw[List.take_length] at g
  exact bW (aI (aaa (bW (aB (am p g (v:=A) rfl (U (X h g)))))))
 |succ f u=>
  intro i h V g
  obtain⟨x,E,_⟩:∃x,l[i]?=some x/\True:=⟨l[i],List.getElem?_eq_getElem (by omega),trivial⟩
  obtain⟨v,q,_⟩:∃v,vi[i]?=some v/\True:=⟨vi[i],List.getElem?_eq_getElem (by omega),trivial⟩
  obtain⟨D,α⟩:=R x (List.mem_of_getElem? E)
  have Y:(fF (l.take i)).length<=40800:=by
   have:=rN (l:=l.take i) fun y P=>R y (List.mem_of_mem_take P);have h2:(l.take i).length<=8:=by rw[List.length_take];omega
   omega
  have S:(kH [99,111,114,101] [x.1]).length<=[99,111,114,101].length+21*[x.1].length+1:=gG (w:=[99,111,114,101]) (l:=[x.1]) (by intro v q;simp at q;subst q;exact D)
  simp only[List.length_cons,List.length_nil] at S
  have u:=fun h g=>u (i+1) h (by omega) g
  rw[<-Nf E,<-List.append_assoc] at u
  unfold pZ mM at u
  rw[<-List.append_assoc,<-List.append_assoc] at u
  have g:=eV (W:=1) (e:=3) (l:=vi.map fun x=>[x]) (by simp) N g
  refine bW (aI (aad (bW (fZ g (x:=[v]) (by simp[q]) rfl (T i v x q E g.tail fun h g=>aE rfl (aE rfl (bC (aaa (bW ?_)))))))))
  refine aB (aB (am p g (v:=J) rfl ?_))
  have g:=eV (W:=1) (e:=3) (l:=iW (l.map (·.1))) (by intro y P;obtain⟨z,_,rfl⟩:=List.mem_map.1 P;rfl) (by simpa [iW] using O) g
  refine fZ g (x:=[I x.1]) (by simp[iW,E]) rfl (bG (c:=[I x.1]) rfl (fS (W:=1) (n:=1) (c:=1) g.tail rfl rfl rfl fun a h g=>?_))
  refine yM (l:=[x.1]) (a:=some a) (c:=1) (by intro v q;simp at q;subst q;exact D) (by decide) (by show 1<=100;omega) g fun h g=>?_
  refine nD (by simp;omega) g fun h g=>nD (by simp;omega) g fun h g=>nD (s:=[101,110,100,10]) (by simp;omega) g fun h g=>?_
  exact aac (u h g)
end
section
def uO (d:Do):Bool:=if cL d.what=[] then true else if d.what≠1 then(if d.b≠0 then true else decide (d.c≠0)) else false
theorem Dt {d:Do}:uO d=false↔uF d:=by
 have k:cL d.what=[]↔d.what<0\/d.what>3:=by
  unfold cL;repeat' split
  all_goals simp
  all_goals omega
 unfold uO uF;by_cases f:cL d.what=[];rw[tu f];have:=k.1 f;constructor;intro h;cases h;intro h;omega;have q:¬(d.what<0\/d.what>3):=fun e=>f (k.2 e);rw[tt f];by_cases a:d.what=1;rw[tt (fun e=>e a)];exact⟨fun _=>⟨by omega,fun e=>absurd a e⟩,fun _=>rfl⟩;rw[tu a];by_cases g:d.b=0;rw[tt (fun e=>e g)];simp only[decide_eq_false_iff_not,Decidable.not_not];exact⟨fun h=>⟨by omega,fun _=>⟨g,h⟩⟩,fun h=>(h.2 a).2⟩;rw[tu g];constructor;intro h;cases h;intro h;exact absurd (h.2 a).1 g
def Ax:List Do->Int
 |[]=>0
 |d::l=>if uO d=true then 1 else Ax l
theorem Ml:∀{l:List Do},Ax l=0↔∀d∈l,uF d
 |[]=>by simp[Ax]
 |d::l=>by
  show(if uO d=true then 1 else Ax l)=0↔_;by_cases h:uO d=true;rw[tu h];constructor;intro e;cases e;intro e;have:=Dt.2 (e d List.mem_cons_self);rw[h] at this;cases this;rw[tt h,Ml (l:=l)];have a:=Dt.1 (by simpa using h:uO d=false);simp[a]
set_option maxRecDepth 100000
variable {G:Bg} {h:AH} {L L' M:List HP} {Q:Value->AH->Prop}
theorem Hn {y:Value} {l:List Do} (D:eJ G 4 y l.length (fun i=>(l.map Do.enc).getD i [])) (K:l.length<=9223372036854775807) (A:∀g,Hs G g L->Q (I (Ax l)) g):
  ∀(f i:Nat) (h:AH),i+f=l.length->Ax l=Ax (l.drop i)->Hs G h L->Dd 55 3 [] Q [y,I l.length,I i] h:=by
 intro f
 induction f with
 |zero=>
  intro i h E q a
  rw[List.drop_of_length_le (by omega)] at q
  have:=A h a
  rw[q] at this
  exact bW (aI (aaa this))
 |succ f J=>
  intro i h E q a
  obtain⟨d,F,z⟩:∃d,l[i]?=some d/\l.drop i=d::l.drop (i+1):=⟨l[i],List.getElem?_eq_getElem (by omega),List.drop_eq_getElem_cons (by omega)⟩
  rw[z] at q
  have B:Ax (d::l.drop (i+1))=if uO d=true then 1 else Ax (l.drop (i+1)):=rfl
  rw[B] at q
  have k:uO d=true->∀g,Hs G g L->Q (I 1) g:=fun hb g t=>by
   have:=A g t;rwa [q,tu hb] at this
  have w:uO d=false->∀g,Hs G g L->Dd 55 3 [] Q [y,I l.length,I ((i+1:Nat):Int)] g:=fun hb g t=>
   J (i+1) g (by omega) (by rw[q,tt (by rw[hb];simp)]) t
  have a:=eV (W:=4) (e:=52) (l:=l.map Do.enc) (by simp[Do.enc]) (by simpa using D) a
  refine bW (aI (aad (bW (E5 a (by decide) (x:=d.enc) (by simp[F]) (eN a.tail fun p h a=>ax (b:=p) a fun h a=>aB (am p a (v:=I d.what) rfl (F0 (Ei (bK (fun c0=>?_) (fun c0=>?_))))))))))
  .exact k (by unfold uO;rw[tu c0]) h a.tail
  refine aB (am p a (v:=I d.what) rfl (bC (bK (fun u=>?_) (fun u=>?_))))
  .refine aB (am p a (v:=I d.b) rfl (bC (bK (fun c2=>?_) (fun c2=>?_))))
   .exact k (by unfold uO;rw[tt c0,tu u,tu c2]) h a.tail
   refine aB (am p a (v:=I d.c) rfl (bC (bK (fun c3=>?_) (fun c3=>?_))))
   .exact k (by unfold uO;rw[tt c0,tu u,tt c2,decide_eq_true c3]) h a.tail
   .exact bW (aac (w (by unfold uO;rw[tt c0,tu u,tt c2,decide_eq_false c3]) h a.tail))
  .exact aac (w (by unfold uO;rw[tt c0,tt u]) h a.tail)
end
section
set_option maxRecDepth 100000
variable {G:Bg} {h:AH} {L L' M:List HP} {Q:Value->AH->Prop}
theorem B4 {C:aZ} {u w ov vv q:Value} {os vs:List Int} {vi:List Value} {l:List (Int×List Ins)} {dl:List Do} {e:Int}
  (z:∀{h:AH} {L:List HP} {Q:Value->AH->Prop},Hs G h L->(∀g,Hs G g L->Q (I e) g)->Cl Pr K 55 [.agg ⟨jY C u w ov vv q⟩] h Q)
  (B:e=0->(∀v∈rY C,dN v)/\(∀v∈os,dN v)/\(∀v∈vs,dN v)/\os.length<=100/\vs.length<=100/\vi.length=l.length/\l.length<=8/\(∀x∈l,dN x.1/\(bN x.2).length<=5000)/\(∀d∈dl,Sg d)/\dl.length<=1000/\
   eJ G 1 ov os.length (fun i=>(iW os).getD i [])/\eJ G 1 vv vs.length (fun i=>(iW vs).getD i [])/\eJ G 1 u (vi.map fun x=>[x]).length (fun i=>(vi.map fun x=>[x]).getD i [])/\
   eJ G 1 w (l.map (·.1)).length (fun i=>(iW (l.map (·.1))).getD i [])/\eJ G 4 q dl.length (fun i=>(dl.map Do.enc).getD i []))
  (V:e=0->∀(i:Nat) (v:Value) (x:Int×List Ins),vi[i]?=some v->l[i]?=some x->∀{h:AH} {L:List HP} {Q:Value->AH->Prop},Hs G h L->(∀g,Hs G g L->Q (.tuple ⟨[tx (bN x.2),I 0]⟩) g)->Cl Pr K 58 [v] h Q)
  (f:Hs G h L) (Y:e≠0->∀g,Hs G g L->Q (.tuple ⟨[tx [],I e]⟩) g) (Z:e=0->∀g,Hs G g L->Q (.tuple ⟨[tx (gE C os vs l dl),I 0]⟩) g):
  Cl Pr K 20 [.agg ⟨jY C u w ov vv q⟩] h Q:=by
 refine cW (fK (cs:=jY C u w ov vv q) f fun p h f=>an p f (l:=jY C u w ov vv q) rfl rfl (z f fun h f=>bC (bK (fun c=>Y c h f.tail) (fun c=>?_))))
 have c:e=0:=by omega
 obtain⟨D,E,F,J,N,O,T,P,U,y,o1,o2,R,o4,S⟩:=B c
 have X:=Ja D E F J N
 have h0:0<(nS C os vs).length:=by unfold nS;rw[dQ];unfold vA;have w6:kO.length=6:=rfl;simp only[List.length_append];omega
 have W:=rN P
 have lp:∀{k:Value->Prop},k (I l.length)->aK (eO u) k:=fun {k} A=>by
  obtain⟨a,b,e,_⟩:=R;rw[e];exact cM (by simpa [O] using A)
 have ld:∀{k:Value->Prop},k (I dl.length)->aK (eO q) k:=fun {k} A=>by
  obtain⟨a,b,e,_⟩:=S;rw[e];exact cM A
 refine E2 (n:=l.length) D E F J N o1 o2 lp f fun b h f=>?_
 refine Cg (nd:=dl.length) (t:=nS C os vs) O T X P R o4 ld (V c) (fun h f=>?_) l.length 0 h (by omega) (by rw[List.take_zero];show Hs G h (sQ b (nS C os vs++[])::_);rw[List.append_nil];exact f)
 refine Jz (L:=aM p 0 (jY C u w ov vv q)::L) (t:=nS C os vs++fF l) S U y (by simp;omega) (by simp;omega) (fun h f=>Z c h f.tail) dl.length 0 h (by omega) ?_
 rw[List.take_zero]
 show Hs G h (sQ b (nS C os vs++fF l++[])::_)
 rw[List.append_nil]
 exact f
end
end Go.Proofs.YtcjlkjeeifemhaaGreatDoor
end
namespace Go.Proofs.YtcjlkjeeifemhaaGreatDoor.P
open Go Go.Ab Go.Is
section
theorem vV {g n a i:Nat} {x:Int} {k:Value->Prop} (f:x=(i:Int)) (q:i<n) (e:k (pt g (i*a) 0)):aK (oK n a (.pointer (some ⟨g,0,none⟩)) (I x)) k:=by
 subst f;exact U4 (b:=g) (o:=0) (j:=0) (by omega) (by omega) (by simpa [pt] using e)
theorem kI {α:Type} {l:List α} {i:Nat} (h:i<l.length):∃x,l[i]?=some x/\l.drop i=x::l.drop (i+1):=⟨l[i],by simp,List.drop_eq_getElem_cons h⟩
set_option maxRecDepth 100000
attribute [local irreducible] aK Br vH sW vI tX iM tM gT Q2 qF uH sB mL mI eO rX vM Hb Oy K8 Kr N1 Hq Jd O5 Kq kK oK nZ gF copyV iP sL P0 Ha yK hQ Ku P1 Pn jL mP sA sN Cl yC Lu nO mZ fP eD aY aR
variable {G:Bg} {h:AH} {L L' M:List HP} {Q:Value->AH->Prop}
theorem oL {x:Int} (a:Q (.bool (xE x)) h):Cl Pr K 170 [I x] h Q:=by
 refine cW (gJ (bK (fun e=>aI ?_) (fun e=>?_)));show Q _ _;rw[show decide (x<12)=xE x from decide_eq_decide.2 (by omega)];exact a;show Q _ _;rw[show false=xE x from(decide_eq_false (by omega)).symm];exact a
theorem qK {what v many:Int} (a:Q (.bool (lF what v many)) h):Cl Pr K 172 [I what,I v,I many] h Q:=by
 unfold lF at a;refine cW (dH (bK (fun c=>?_) (fun f=>bW (dH (bK (fun c=>?_) (fun g=>bW (dH (bK (fun c=>?_) (fun k=>bW (dH (bK (fun c=>?_) (fun q=>bW (dH (bK (fun c=>?_) (fun n5=>dH ?_)))))))))))))));rw[tu c] at a;refine gJ (bK (fun e=>aI ?_) (fun e=>?_));show Q _ _;rw[show decide (v<4)=decide (0<=v/\v<4) from decide_eq_decide.2 (by omega)];exact a;rw[decide_eq_false (by omega)] at a;exact a;rw[tt f,tu c] at a;exact a;rw[tt f,tt g,tu c] at a;refine gJ (bK (fun e=>mC ?_) (fun e=>?_));show Q _ _;rw[show decide (v<=3)=decide (1<=v/\v<=3) from decide_eq_decide.2 (by omega)];exact a;rw[decide_eq_false (by omega)] at a;exact a;rw[tt f,tt g,tt k,tu c] at a;refine gJ (bK (fun e=>mC ?_) (fun e=>?_));show Q _ _;rw[show decide (v<=4)=decide (1<=v/\v<=4) from decide_eq_decide.2 (by omega)];exact a;rw[decide_eq_false (by omega)] at a;exact a;rw[tt f,tt g,tt k,tt q,tu c] at a;refine gJ (bK (fun e=>mC ?_) (fun e=>?_));show Q _ _;rw[show decide (v<=many)=decide (0<=v/\v<=many) from decide_eq_decide.2 (by omega)];exact a;rw[decide_eq_false (by omega)] at a;exact a;rw[tt f,tt g,tt k,tt q,tt n5] at a;exact a
def lh (p:Int×Int):List Value:=[I p.1,I p.2]
theorem iI {x:Ins} (a:Hs G h L) (f:∀p e,Hs G e (aM p 0 x.enc::L)->Q (.func (.func 159) #[] #[pt p 0 0]) e):Cl Pr K 103 [.agg ⟨x.enc⟩] h Q:=by
 exact cW (fK a fun p h a=>f _ _ a)
theorem jI {x:Ins} {p:Nat} (g:xE x.op=true) (F:Ob G 0 eP):mo Pr K G 159 [] [pt p 0 0] (aM p 0 x.enc) (x.dV.map lh):=by
 intro u J y L h Q a P B D;have O:=of_decide_eq_true g;refine cW ?_;refine aB (aL a rfl (aB (aL a rfl (aB (aL a rfl (bG (c:=x.qE.map I) rfl ?_))))));have loop:∀(f i:Nat) (h:AH),i+f=3->Hs G h (aM p 0 x.enc::u ((x.dV.drop i).map lh)::L)->Dd 159 1 [] Q [y,(pt p 0 0),(.agg ⟨x.qE.map I⟩),(I i)] h:=by
  intro f;induction f with
  |zero=>
   intro i h N a;rw[List.drop_of_length_le (by rw[kW g];omega)] at a;exact bW (aI (aaa (B _ _ a)))
  |succ f R=>
   intro i h N a;obtain⟨q,k,E⟩:=kI (l:=x.dV) (i:=i) (by rw[kW g];omega);rw[zQ g (by omega)] at k;simp only[Option.some.injEq] at k;rw[E] at a;have w:i=0\/i=1\/i=2:=by omega
   have z:(x.qE.map I)[i]?=some (I q.2):=by
    rw[<-k];rcases w with rfl|rfl|rfl<;>rfl
   refine bW (aI (aad (bW (Pd (by omega) z (aB (aL a rfl (vV (i:=x.op.toNat) (by omega) (by omega) (aB (mO (by omega) ?_)))))))));refine zE a F (Ae (by omega) (by omega)) ?_;have t:(jU x.op.toNat).getD i 0=q.1:=by rw[<-k]
   rw[t];refine(P _ _ h _ a.pS).mono fun v A t=>?_;rcases t with⟨rfl,e⟩|⟨rfl,e⟩;exact cC (dK (bW (aac (R (i+1) A (by omega) e.pS))));exact cC (fO (D _ _ e.pS))
 exact loop 3 0 h rfl a
abbrev V1 (p1 p5:Nat) (many v:Int) (e:Nat->Value) (d l:Nat) (z:LoopState×Option Code) (c:Prop):HP:=sp [Kw c,Aq Pr 112 (yD 442) 22 e d l z,aM p5 0 [I many],aM p1 0 [I v]]
theorem oP {x:Ins} {many:Int} (D:Ob G 0 eP) (a:Hs G h L) (g:∀z,Hs G z L->Q (I (lZ x many)) z):Cl Pr K 112 [.agg ⟨x.enc⟩,I many] h Q:=by
 refine cW (fK a fun E h a=>fK a fun k h a=>aB (aL a rfl (oL (cC (xA (xC (fun t=>?_) (fun t=>?_)))))));rotate_left;have:=g h a.tail.tail;unfold lZ at this;rw[tt (by rw[t];decide)] at this;exact xD this;unfold lZ at g;rw[tu t] at g;refine bW (eN a fun p1 h a=>ax a fun h a=>bE a (by decide) (l:=x.enc) rfl rfl (iI a fun p h a=>Fa a fun d h a=>?_));intro e B;refine Lt a fun l h a=>Tp rfl ?_;have a:Hs G h (aM p 0 x.enc::V1 p1 k many 0 e d l (.ready,none) ((([]:List (Int×Int)).all fun p=>lF p.1 p.2 many)=true)::mk d ()::L):=by
  refine Hs.pS (mN rfl (Hs.Xm ?_));have a:=a.N0 (Aq Pr 112 (yD 442) 22 e d l (.ready,none)) (aM k 0 [I many]) (aM p1 0 [I 0]);exact a.to
 refine(jI (p:=p) t D).fold (X:=fun done=>V1 p1 k many 0 e d l (.ready,none) ((done.all fun p=>lF p.1 p.2 many)=true)) (Z:=fun _ y=>V1 p1 k many 10 e d l (.done,some (.exit 0)) (lF y.1 y.2 many=false)) a ?_ ?_ ?_
 .intro done y h M A a;obtain⟨q,f⟩:=iQ a;clear a;have a:=f.Wo;refine rW (Tm a) B (B1 a fun h a=>am k a rfl (qK (cC (xA (xC (fun u=>?_) (fun u=>?_))))));refine wS a fun h a=> .inl ⟨rfl,mN ?_ (Hs.Xm a.to)⟩;rw[List.all_append,q];simp[u];refine ax (b:=p1) (o:=0) a fun h a=>wS a fun h a=> .inr ⟨rfl,mN u (Hs.Xm ?_)⟩;exact a.to
 intro v h a;have a:=a.front (V1 p1 k many 0 e d l (.ready,none) ((x.dV.all fun p=>lF p.1 p.2 many)=true));obtain⟨q,f⟩:=iQ a;clear a;have a:=f.Wo;rw[tu q] at g;exact Mk a fun h a=>Li (am p1 a rfl (Kb a fun h a=>xD (g _ a.to)))
 .intro done y v h A a;have a:=a.front (V1 p1 k many 10 e d l (.done,some (.exit 0)) (lF y.1 y.2 many=false));obtain⟨q,f⟩:=iQ a;clear a;have a:=f.Wo;rw[tt ?_] at g;exact Nq a fun h a=>La rfl (am p1 a rfl (Kb a fun h a=>xD (g _ a.to)));obtain⟨F,w⟩:=A;rw[<-w];simp[q]
theorem lI {t:Value} {p:List Ins} {_v0 v1:Value} {e:TypeId} (v:v1=I p.length) (D:p.length<=32) (y:Ob G 0 eP) (k:∀q,Hs G q (lX G 4 e t (p.map Ins.enc)::L)->Q (.tuple ⟨[I (cQ p).1,I (cQ p).2]⟩) q):
  ∀(f i:Nat) (h:AH),i+f=p.length->cQ p=Kt p.length (p.drop i) i->Hs G h (lX G 4 e t (p.map Ins.enc)::L)->Dd 71 2 [] Q [t,t,v1,(I i)] h:=by
 subst v
 intro f
 induction f with
 |zero=>
  intro i h z g a
  rw[List.drop_of_length_le (by omega)] at g
  rw[g] at k
  exact bW (aI (aaa (k _ a)))
 |succ f B=>
  intro i h z g a
  obtain⟨x,A,w⟩:=kI (l:=p) (i:=i) (by omega)
  rw[w,Kt] at g
  obtain⟨F,J,u⟩:=gO a
  refine bW (aI (aad (bW (E5 a (by decide) (i:=i) (x:=x.enc) (by simp[A]) (eN a fun E h a=>?_)))))
  refine ax a fun h a=>bE a (by decide) (l:=x.enc) rfl rfl ?_
  rw[u]
  refine cM ?_
  rw[<-u,List.length_map]
  refine oP y a fun h a=>bC (bK (fun c=>?_) (fun c=>?_))
  .rw[tu c] at g;rw[g] at k;exact aac (k _ a.tail)
  .rw[tt c] at g;exact bW (aac (B (i+1) h (by omega) g a.tail))
theorem kJ {t:Value} {p:List Ins} {e:TypeId} (q:Ob G 0 eP) (f:Hs G h (lX G 4 e t (p.map Ins.enc)::L)) (a:∀g,Hs G g (lX G 4 e t (p.map Ins.enc)::L)->Q (.tuple ⟨[I (cQ p).1,I (cQ p).2]⟩) g):
  Cl Pr K 71 [t] h Q:=by
 obtain⟨v,w,u⟩:=gO f
 have len:∀{k:Value->Prop},k (I p.length)->aK (eO t) k:=fun a=>by
  rw[u];refine cM ?_;rw[List.length_map];exact a
 refine cW (len (fY (bK (fun c=>?_) (fun c=>?_))))
 .have:=a h f;unfold cQ at this;rw[aae] at this;exact this
 .refine bW (len (lI (_v0:=t) rfl (by omega) q a p.length 0 h (by omega) ?_ f));unfold cQ;rw[aab];rfl
end
end Go.Proofs.YtcjlkjeeifemhaaGreatDoor.P
section
open Go Go.Ab
attribute [local irreducible] aK Br vH sW vI tX iM tM gT Q2 qF uH sB mL mI eO rX vM Hb Oy K8 Kr N1 Hq Jd O5 Kq kK oK nZ gF copyV iP sL P0 Ha yK hQ Ku P1 Pn jL mP sA sN Cl yC Lu nO mZ fP eD aY aR
namespace Go.Proofs.YtcjlkjeeifemhaaGreatDoor.P
open Go Go.Ab Go.Is
section
set_option maxRecDepth 100000
variable {G:Bg} {h:AH} {L L' M:List HP} {Q:Value->AH->Prop}
abbrev jj (p1:Nat) (s:List UInt8) (e:Nat->Value) (d l:Nat) (z:LoopState×Option Code) (c:Prop):HP:=sp [Kw c,Aq Pr 58 (yD 501338) 47 e d l z,aM p1 0 [tx s]]
theorem Ur (a b:List Int):cZ (a++b)=cZ a++cZ b:=by simp[cZ]
theorem Ri {p:List Ins} {i:Nat} {x:Ins} (a:p[i]?=some x):bN (p.take (i+1))=bN (p.take i)++(fI x++[10]):=by
 rw[List.take_add_one,a];simp[bN]
theorem nQ {p:List Ins} (a:∀x∈p,xE x.op=true/\x.dN):(bN p).length<=p.length*69:=by
 induction p with
 |nil=>simp[bN]
 |cons x p f=>
  have g:=f fun y e=>a y (List.mem_cons_of_mem _ e);have k:=Jl (a x List.mem_cons_self).1 (a x List.mem_cons_self).2;have:bN (x::p)=(fI x++[10])++bN p:=rfl;rw[this];simp;omega
theorem Ls {t:Value} {p:List Ins} {v1:Value} {e:TypeId} {p1:Nat} (N:v1=I p.length) (hl:p.length<=32) (hp:∀x∈p,xE x.op=true/\x.dN) (hg:Ob G 0 eP)
  (hk:∀Y,Hs G Y (lX G 4 e t (p.map Ins.enc)::L)->Q (.tuple ⟨[tx (bN p),I 0]⟩) Y):
  ∀(f i:Nat) (B:List Nat) (h:AH),i+f=p.length->Hs G h (aM p1 0 [tx (bN (p.take i))]::Wk B::lX G 4 e t (p.map Ins.enc)::L)->Dd 58 2 B Q [(tx []),(I 0),(pt p1 0 0),t,v1,(I i),undef,undef] h:=by
 subst N
 intro f
 induction f with
 |zero=>
  intro i B h hi g
  rw[List.take_of_length_le (by omega)] at g
  exact bW (aI (aaa (aL g rfl (km (L:=lX G 4 e t (p.map Ins.enc)::L) B g.tail hk))))
 |succ f ih=>
  intro i B h hi g
  obtain⟨x,U,D⟩:=kI (l:=p) (i:=i) (by omega)
  obtain⟨K,R⟩:=hp x (List.mem_of_getElem? U)
  have ε:=of_decide_eq_true K
  have α:(bN (p.take i)).length<=32*69:=by
   have:=nQ (p:=p.take i) fun y V=>hp y (List.mem_of_mem_take V);have O:(p.take i).length<=32:=by rw[List.length_take];omega
   omega
  have hw:=qW (k:=x.op.toNat) (by omega)
  refine bW (aI (aad (bW (E5 (g.front (lX G 4 e t (p.map Ins.enc))) (by decide) (i:=i) (x:=x.enc) (by simp[U]) (eN g fun p3 h g=>?_)))))
  refine ax g fun h g=>dW g fun r h g=>am p1 g rfl (aB (aL g rfl (vV (i:=x.op.toNat) (by omega) (by omega) (aB (zE g hg (Hi (by omega)) ?_)))))
  refine kA (by omega) (ax (b:=p1) (o:=0) g fun h g=>an p3 g (l:=x.enc) rfl rfl (iI g fun q h g=>Fa g fun d h g=>?_))
  intro F he
  refine Lt g fun l h g=>Tp rfl ?_
  have g:Hs G h (aM q 0 x.enc::jj p1 (bN (p.take i)++fH x.op.toNat++cZ ([]:List Int)) F d l (.ready,none) (∀y∈([]:List (Int×Int)),y.1≠0)::Wk (d::B)::lX G 4 e t (p.map Ins.enc)::L):=by
   refine Hs.pS (mN (fun y V=>by cases V) (Hs.im ?_));have g:=Vx (g.lT (mk d ()) (Wk B));have g:=g.lT (Aq Pr 58 (yD 501338) 47 F d l (.ready,none)) (aM p1 0 [tx (bN (p.take i)++fH x.op.toNat)]);have e0:bN (p.take i)++fH x.op.toNat++cZ ([]:List Int)=bN (p.take i)++fH x.op.toNat:=by simp[cZ]
   rw[e0];exact g.to
  have next:∀(s:List UInt8) (h:AH),s=fI x->Hs G h (aM p1 0 [tx (bN (p.take i)++s)]::Wk (d::B)::lX G 4 e t (p.map Ins.enc)::L)->
    aK (vH h (pt p1 0 0)) fun v28=>aK (Hb .add v28 (.string ⟨#[10]⟩)) fun v29=>aK (vI h 1 (pt p1 0 0) v29) fun P=>aK (vM .add (I i) (I 1)) fun v31=>Dd 58 2 (d::B) Q [(tx []),(I 0),(pt p1 0 0),t,(I p.length),v31,undef,undef] P:=fun s h T g=>by
   subst T
   have δ:=Jl K R
   refine aL g rfl (kA (b:=[10]) (by rw[List.length_append];simp;omega) (ax g fun h g=>aac (ih (i+1) (d::B) h (by omega) ?_)))
   rw[Ri U]
   rw[List.append_assoc] at g
   exact g
  refine(jI (p:=q) K hg).fold (X:=fun done=>jj p1 (bN (p.take i)++fH x.op.toNat++cZ (done.map (·.2))) F d l (.ready,none) (∀y∈done,y.1≠0))
   (Z:=fun done y=>jj p1 (bN (p.take i)++fH x.op.toNat++cZ (done.map (·.2))) F d l (.done,some (.exit 2)) ((∀y∈done,y.1≠0)/\y.1=0)) g ?_ ?_ ?_
  .intro done y h M u g;obtain⟨D,w⟩:=iQ g;clear g;have g:=w.ly;have W:y∈x.dV:=by obtain⟨ys,A⟩:=u;rw[<-A];simp
   have J:=uA R W
   refine rW (Tm g) he (B1 g fun h g=>dH (bK (fun c=>?_) (fun c=>?_)))
   .refine wS g fun h g=> .inr ⟨rfl,mN ⟨D,c⟩ (Hs.im ?_)⟩;exact g.to
   .refine dW g fun r h g=>am p1 g rfl (uM J ?_);have β:=tY J;have γ:(cZ (done.map (·.2))).length<=3*21:=by
     have N:=gP (done.map (·.2)) fun v hv=>by
      obtain⟨z,E,rfl⟩:=List.mem_map.1 hv;obtain⟨ys,A⟩:=u;exact uA R (by rw[<-A];simp[E])
     have O:=u.length_le;rw[kW K] at O;simp at O N;omega
    refine kA (a:=[32]) (by simp;omega) (kA (by simp;omega) ?_)
    have S:=g
    refine ax (b:=p1) (o:=0) g fun h g=>nN (am p1 S rfl Zr) (wS g fun h g=> .inl ⟨rfl,mN ?_ (Hs.im ?_)⟩)
    .intro z E;rcases List.mem_append.1 E with E|E
     .exact D z E
     .rw[List.mem_singleton.1 E];exact c
    .have e1:bN (p.take i)++fH x.op.toNat++cZ ((done++[y]).map (·.2))=bN (p.take i)++fH x.op.toNat++cZ (done.map (·.2))++([32]++Lib.itoa y.2):=by
      rw[List.map_append,Ur];simp[cZ]
     rw[e1]
     exact g.to
  .intro v h g;have g:=g.front (jj p1 (bN (p.take i)++fH x.op.toNat++cZ (x.dV.map (·.2))) F d l (.ready,none) (∀y∈x.dV,y.1≠0));obtain⟨D,w⟩:=iQ g;clear g;have g:=w.ly;rw[List.append_assoc] at g;refine Mk g fun h g=>Li (next (fH x.op.toNat++cZ (x.dV.map (·.2))) h ?_ g.to);rw[fI,Jy _ D]
  .intro done y v h u g;have g:=g.front (jj p1 (bN (p.take i)++fH x.op.toNat++cZ (done.map (·.2))) F d l (.done,some (.exit 2)) ((∀y∈done,y.1≠0)/\y.1=0));obtain⟨⟨D,h0⟩,w⟩:=iQ g;clear g;have g:=w.ly;rw[List.append_assoc] at g;refine Nq g fun h g=>La rfl (next (fH x.op.toNat++cZ (done.map (·.2))) h ?_ g.to);obtain⟨ys,A⟩:=u;rw[fI,<-A,List.append_assoc,List.singleton_append,Io h0 _ _ D]
theorem B4 {t:Value} {p:List Ins} {e:TypeId} (z:∀x∈p,x.dN) (q:Ob G 0 eP) (a:Hs G h (lX G 4 e t (p.map Ins.enc)::L)) (f:∀g,Hs G g (lX G 4 e t (p.map Ins.enc)::L)->Q (.tuple ⟨[tx (eT p).1,I (eT p).2]⟩) g):
  Cl Pr K 58 [t] h Q:=by
 refine cW (kJ q a fun h a=>aE rfl (aE rfl (bC (bK (fun c=>?_) (fun c=>?_)))))
 .have:=f h a;unfold eT at this;rw[tt c] at this;exact xD this
 .have v:(cQ p).2=0:=by omega
  unfold eT at f
  rw[tu v] at f
  obtain⟨w,y⟩:=Is.eK v
  obtain⟨B,D,A⟩:=gO a
  refine bW (eN a fun p1 h a=>ax a fun h a=>?_)
  have len:∀{k:Value->Prop},k (I p.length)->aK (eO t) k:=fun f=>by
   rw[A];refine cM ?_;rw[List.length_map];exact f
  refine len (Ls (L:=L) (p:=p) (e:=e) rfl w (fun x u=>⟨qS (y x u),z x u⟩) q f p.length 0 [] h (by omega) ?_)
  have a:Hs G h (Wk []::aM p1 0 [tx (bN (p.take 0))]::lX G 4 e t (p.map Ins.enc)::L):=Yc a
  exact a.to
end
end Go.Proofs.YtcjlkjeeifemhaaGreatDoor.P
namespace Go.Proofs.YtcjlkjeeifemhaaGreatDoor
open Go Go.Ab Go.Hm
section
set_option maxRecDepth 100000
variable {G:Bg} {h:AH} {L L':List HP}
theorem Nc {C:aZ} {p:Nat} {Q:Value->AH->Prop} (t:Hs G h (aM p 0 C.enc::L)):∀(f i:Nat),i+f=7->Q (I (C.Kt f i)) h->Dd 69 1 [] Q [(pt p 0 0),(I 0),(.agg ⟨jM⟩),(I i)] h:=by
 intro f;induction f with
 |zero=>
  intro i u a;exact bW (aI (aaa a))
 |succ f w=>
  intro i u a;have e:i<7:=by omega
  refine bW (aI (aad (bW ?_)));have q:C.enc[0+i*1]?=some (I (C.list.getD i 0)):=by
   have:i=0\/i=1\/i=2\/i=3\/i=4\/i=5\/i=6:=by omega
   rcases this with rfl|rfl|rfl|rfl|rfl|rfl|rfl<;>rfl
  have v:jM[i]?=some (I (dq.getD i 0)):=by
   have:i=0\/i=1\/i=2\/i=3\/i=4\/i=5\/i=6:=by omega
   rcases this with rfl|rfl|rfl|rfl|rfl|rfl|rfl<;>rfl
  rw[aZ.Kt] at a;refine Pd e v (mO e (aL t q (aI (bK (fun g=>?_) (fun g=>mO e (aL t q (fY (bK (fun k=>bW ?_) (fun k=>bW (aac (w (i+1) (by omega) ?_)))))))))));rw[tu (.inl g)] at a;exact a;rw[tu (.inr k)] at a;exact a;rw[aab] at a;exact a
theorem eK {C:aZ} {Q:Value->AH->Prop} (g:Ob G 1 jM) (a:Hs G h L) (f:∀e,Hs G e L->Q (I (if C.Ok then 0 else 10)) e):Cl Pr K 69 [.agg ⟨C.enc⟩] h Q:=by
 refine cW ?_;refine fK a ?_;intro p h a;iterate 7 refine aB (aL a rfl ?_)
 refine bG (c:=C.enc) rfl (eN a ?_);intro p h a;refine ax a ?_;intro h a;refine b0 a g rfl ?_;refine Nc (C:=C) a 7 0 rfl ?_;show Q _ _;rw[aZ.jg];exact f _ a.tail.tail
theorem tU {C:aZ} (hC:C.Ok) {Q:Value->AH->Prop} (g:Ob G 1 jM) (a:Hs G h L) (f:∀e,Hs G e L->Q (I C.lines) e):Cl Pr K 53 [.agg ⟨C.enc⟩] h Q:=by
 refine cW ?_;refine fK a ?_;intro p h a;refine bE a (by decide) (l:=C.enc) rfl rfl (eK g a fun h a=>?_);rw[tu hC];have hb:=aZ.fC hC;refine bC (aaa ?_);refine aB (aL a rfl (Vc (by unfold aZ.Ok at hC;omega) ?_));show Q _ _;rw[show C.cH*2=(C.lines:Int) from hb.1.symm];exact f _ a.tail
theorem Q3 {C:aZ} (hC:C.Ok) {l:Int} {Q:Value->AH->Prop} (q:Ob G 1 jM) (a:Hs G h L) (e:∀f,Hs G f L->Q (if 0<=l/\l<C.lines then .tuple ⟨[I (l % C.aF),I 0]⟩ else .tuple ⟨[I 0,I 10]⟩) f):Cl Pr K 193 [.agg ⟨C.enc⟩,I l] h Q:=by
 refine cW ?_;refine fK a ?_;intro p h a;refine aI (bK (fun g=>?_) (fun g=>?_));have:=e _ a.tail;rw[aab] at this;exact this;refine bE a (by decide) (l:=C.enc) rfl rfl (tU hC q a fun h a=>?_);refine gJ (bK (fun k=>?_) (fun k=>?_));have:=e _ a.tail;rw[aab] at this;exact this;have:=e _ a.tail;rw[aae] at this;refine aB (aL a rfl (T4 (by omega) (by unfold aZ.Ok at hC;omega) ?_));exact this
end
section
set_option maxRecDepth 100000
variable {G:Bg} {h:AH} {L L':List HP}
structure re where
 r:Int
 w:Int
 a:Option Addr
 cap:Nat
def iU (n B b o i:Nat) (mem:Nat->Ln):HP:=B9 fun x:re=>
 sp [aM b o [I x.r,I x.w,.slice x.a (gI n B i) x.cap],cB 2 189 x.a x.cap (gI n B i,(List.range (gI n B i)).flatMap (Kx B i mem))]
theorem Ep {n B b o i:Nat} {mem:Nat->Ln} (e:Hs G h (iU n B b o i mem::L)):∃r w a cap,Hs G h (aM b o [I r,I w,.slice a (gI n B i) cap]::cB 2 189 a cap (gI n B i,(List.range (gI n B i)).flatMap (Kx B i mem))::L):=by
 obtain⟨⟨r,w,a,cap⟩,e⟩:=e.Wd;exact⟨r,w,a,cap,e.unpack⟩
theorem tH {n B b o i:Nat} {mem:Nat->Ln} {r w:Int} {a:Option Addr} {cap:Nat} (e:Hs G h (aM b o [I r,I w,.slice a (gI n B i) cap]::cB 2 189 a cap (gI n B i,(List.range (gI n B i)).flatMap (Kx B i mem))::L)):Hs G h (iU n B b o i mem::L):=
 Hs.B8 (A:=fun x:re=>sp [aM b o [I x.r,I x.w,.slice x.a (gI n B i) x.cap],cB 2 189 x.a x.cap (gI n B i,(List.range (gI n B i)).flatMap (Kx B i mem))]) ⟨r,w,a,cap⟩ (Hs.pack (A:=[_,_]) e)
structure rm where
 b:Nat
 o:Nat
 cap:Nat
def hU (G:Bg) (n mb:Nat) (C:aZ) (mem:Nat->Ln):HP:=B9 fun x:rm=>
 sp [aM mb 0 (C.enc++[.slice (some ⟨x.b,x.o,none⟩) C.aF.toNat x.cap]),hole G 3 290 (some ⟨x.b,x.o,none⟩) x.cap C.aF.toNat x.b x.o,iT C.aF.toNat fun i=>iU n C.aF.toNat x.b (x.o+i*3) i mem]
theorem J8 {n mb:Nat} {C:aZ} {mem:Nat->Ln} (a:Hs G h (hU G n mb C mem::L)):∃b o cap,Hs G h (aM mb 0 (C.enc++[.slice (some ⟨b,o,none⟩) C.aF.toNat cap])::hole G 3 290 (some ⟨b,o,none⟩) cap C.aF.toNat b o::iT C.aF.toNat (fun i=>iU n C.aF.toNat b (o+i*3) i mem)::L):=by
 obtain⟨⟨b,o,cap⟩,a⟩:=a.Wd;exact⟨b,o,cap,a.unpack⟩
theorem Eb {n mb:Nat} {C:aZ} {mem:Nat->Ln} {b o cap:Nat} (a:Hs G h (aM mb 0 (C.enc++[.slice (some ⟨b,o,none⟩) C.aF.toNat cap])::hole G 3 290 (some ⟨b,o,none⟩) cap C.aF.toNat b o::iT C.aF.toNat (fun i=>iU n C.aF.toNat b (o+i*3) i mem)::L)):Hs G h (hU G n mb C mem::L):=
 Hs.B8 (A:=fun x:rm=>sp [aM mb 0 (C.enc++[.slice (some ⟨x.b,x.o,none⟩) C.aF.toNat x.cap]),hole G 3 290 (some ⟨x.b,x.o,none⟩) x.cap C.aF.toNat x.b x.o,iT C.aF.toNat fun i=>iU n C.aF.toNat x.b (x.o+i*3) i mem]) ⟨b,o,cap⟩ (Hs.pack (A:=[_,_,_]) a)
theorem Hd {a e f:List HP} (n mb:Nat) (C:aZ) (mem:Nat->Ln) (b o cap:Nat) (g:Hs G h L) [k:dJ (aM mb 0 (C.enc++[.slice (some ⟨b,o,none⟩) C.aF.toNat cap])) L a] [q:dJ (hole G 3 290 (some ⟨b,o,none⟩) cap C.aF.toNat b o) a e] [t:dJ (iT C.aF.toNat (fun i=>iU n C.aF.toNat b (o+i*3) i mem)) e f]:Hs G h (hU G n mb C mem::f):=
 Eb (b:=b) (o:=o) (cap:=cap) (g.perm (k.perm.trans ((q.perm.trans (t.perm.cons _)).cons _)))
theorem Zk {C:aZ} (hC:C.Ok) {mb b o cap l:Nat} {Q:Value->AH->Prop} (q:Ob G 1 jM) (a:Hs G h L) [m:Has (aM mb 0) L (C.enc++[.slice (some ⟨b,o,none⟩) C.aF.toNat cap]) L'] (t:l<C.lines)
  (k:∀e,Hs G e L->Q (.tuple ⟨[pt b (o+(l % C.aF.toNat)*3) 0,I (l/C.aF.toNat:Nat),I 0]⟩) e):Cl Pr K 139 [pt mb 0 0,I l] h Q:=by
 have hb:=aZ.bk hC
 refine cW (Nv (dK (bW ?_)))
 refine bI (aB (bE a (by decide) (l:=C.enc) rfl rfl (Q3 hC q a fun h a=>?_)))
 rw[aae]
 refine aE rfl (aE rfl (bC (aaa ?_)))
 refine dW a ?_
 intro r h a
 refine bI (aB (aL a rfl ?_))
 have f:(l:Int) % C.aF=((l % C.aF.toNat:Nat):Int):=by rw[<-hb.1];simp
 have g:(l:Int)/C.aF=((l/C.aF.toNat:Nat):Int):=by rw[<-hb.1];simp
 rw[f]
 refine gB (Nat.mod_lt _ hb.2.1) (bI (aB (aB (aL a rfl (bg (by omega) (by omega) (by have:=(aZ.fC hC).2;omega) ?_)))))
 show Q _ _
 rw[g]
 exact k _ a.tail
theorem Ic {C:aZ} (hC:C.Ok) {p mb:Nat} {Q:Value->AH->Prop} (A:∀u,Hs G u (hU G C.lines mb C iS::L)->Q (.tuple ⟨[pt mb 0 0,I 0]⟩) u):∀(f n:Nat) (h:AH) (g:HP),n+f=C.lines->Hs G h (hU G n mb C iS::aM p 0 C.enc::g::L)->
  Dd 73 2 [] Q [(pt p 0 0),(pt mb 0 0),(I C.lines),(I n)] h:=by
 have hb:=aZ.bk hC
 have D:=aZ.fC hC
 intro f
 induction f with
 |zero=>
  intro n h g E e
  have:n=C.lines:=by omega
  subst this
  exact bW (aI (aaa (A _ e.to)))
 |succ f F=>
  intro n h g E e
  refine bW (aI (aad (bW ?_)))
  refine dW e ?_
  intro J h e
  obtain⟨b,o,cap,e⟩:=J8 (e.front (hU G n mb C iS))
  refine bI (aB (aL e rfl (aB (aL e rfl ?_))))
  have v:(n:Int) % C.aF=((n % C.aF.toNat:Nat):Int):=by rw[<-hb.1];simp
  refine T4 (by omega) (by omega) ?_
  rw[v]
  have k:=Nat.mod_lt n hb.2.1
  refine gB k ?_
  have e:=(e.front (iT C.aF.toNat fun i=>iU n C.aF.toNat b (o+i*3) i iS)).Ga (n % C.aF.toNat) k
  obtain⟨r,w,a,K,e⟩:=Ep e
  refine bI (aB (aL e rfl (bG (c:=Se (0,0)) rfl (bG (c:=Se (0,0)) rfl ?_))))
  refine fS e rfl rfl rfl ?_
  intro a3 h e
  have y:=Xa (n:=n) (B:=C.aF.toNat) (i:=n % C.aF.toNat) hb.2.1
  refine pA e (by omega) ?_
  intro a4 c4 h e
  dsimp only
  refine bI (aB (ay e ?_))
  intro h e
  refine aac ?_
  refine F (n+1) h (sp [cB 2 189 (some a3) 1 (1,Se (0,0)),Sr J (10,[]),g]) (by omega) ?_
  have t:gI (n+1) C.aF.toNat (n % C.aF.toNat)=gI n C.aF.toNat (n % C.aF.toNat)+1:=by rw[Ej k,tu rfl]
  have x:(List.range (gI n C.aF.toNat (n % C.aF.toNat))).flatMap (Kx C.aF.toNat (n % C.aF.toNat) iS)++Se (0,0)=(List.range (gI (n+1) C.aF.toNat (n % C.aF.toNat))).flatMap (Kx C.aF.toNat (n % C.aF.toNat) iS):=by
   rw[t,List.range_succ,List.flatMap_append];rfl
  rw[x,<-t] at e
  have e:=tH (n:=n+1) (r:=r) (w:=w) (a:=a4) (cap:=c4) (b:=b) (o:=o+n % C.aF.toNat*3) e
  exact(Hd (n+1) mb C iS b o cap (e.Gv (n:=C.aF.toNat) (i:=n % C.aF.toNat) (fun i=>iU n C.aF.toNat b (o+i*3) i iS) (fun i=>iU (n+1) C.aF.toNat b (o+i*3) i iS) k (fun j z q=>by simp only[iU,Ej z,tt q]))).to
theorem Df {C:aZ} (hC:C.Ok) {Q:Value->AH->Prop} (k:Ob G 1 jM) (e:Hs G h L) (u:∀mb f,Hs G f (hU G C.lines mb C iS::L)->Q (.tuple ⟨[pt mb 0 0,I 0]⟩) f):Cl Pr K 73 [.agg ⟨C.enc⟩] h Q:=by
 have hb:=aZ.bk hC;refine cW (fK e ?_);intro p h e;refine bE e (by decide) (l:=C.enc) rfl rfl (eK k e fun h e=>?_);rw[tu hC];refine bC (aaa (bW (dW e ?_)));intro v h e;refine bE e (by decide) (l:=C.enc) rfl rfl (aB (aL e rfl (G4 (by omega) (by omega) (by omega) ?_)));dsimp only;refine qN e rfl rfl ?_ rfl ?_ ?_;rw[eB,oJ (W:=3) (fun _=>rfl)];rw[eB];exact pK (fun _=>rfl) _;intro a h e;obtain⟨b,o,q,e⟩:=Hs.G1 (W:=3) rfl hb.2.1 e;cases q;refine bG (c:=C.enc++[.slice (some ⟨b,o,none⟩) C.aF.toNat C.aF.toNat]) rfl ?_;refine No e rfl rfl ?_;intro mb h e;refine bE e (by decide) (l:=C.enc) rfl rfl (tU hC k e fun h e=>?_);have e:=(Hs.Lg (g:=fun i=>iU 0 C.aF.toNat b (o+i*3) i iS) C.aF.toNat _ (fun i t h L e=>?_) (e.front (iT C.aF.toNat fun i=>aM b (o+i*3) [I 0,I 0,.slice none 0 0])));have e:=Hd 0 mb C iS b o C.aF.toNat e;exact Ic hC (u mb) C.lines 0 h _ (by omega) (e.to (M:=[hU G 0 mb C iS,aM p 0 C.enc,sp []]++L));refine tH (r:=0) (w:=0) (a:=none) (cap:=0) ?_;rw[Q5 t];exact(eU e).pS
end
end Go.Proofs.YtcjlkjeeifemhaaGreatDoor
end
namespace Go.Proofs.YtcjlkjeeifemhaaGreatDoor
open Go Go.Ab Go.Is
section
theorem vV {g n a i:Nat} {x:Int} {k:Value->Prop} (f:x=(i:Int)) (q:i<n) (e:k (pt g (i*a) 0)):aK (oK n a (.pointer (some ⟨g,0,none⟩)) (I x)) k:=by
 subst f;exact U4 (b:=g) (o:=0) (j:=0) (by omega) (by omega) (by simpa [pt] using e)
theorem kI {α:Type} {l:List α} {i:Nat} (h:i<l.length):∃x,l[i]?=some x/\l.drop i=x::l.drop (i+1):=⟨l[i],by simp,List.drop_eq_getElem_cons h⟩
set_option maxRecDepth 100000
attribute [local irreducible] aK Br vH sW vI tX iM tM gT Q2 qF uH sB mL mI eO rX vM Hb Oy K8 Kr N1 Hq Jd O5 Kq kK oK nZ gF copyV iP sL P0 Ha yK hQ Ku P1 Pn jL mP sA sN Cl yC Lu nO mZ fP eD aY aR
variable {G:Bg} {h:AH} {L L' M:List HP} {Q:Value->AH->Prop}
theorem oL {x:Int} (a:Q (.bool (xE x)) h):Cl Pr K 170 [I x] h Q:=by
 refine cW (gJ (bK (fun e=>aI ?_) (fun e=>?_)));show Q _ _;rw[show decide (x<12)=xE x from decide_eq_decide.2 (by omega)];exact a;show Q _ _;rw[show false=xE x from(decide_eq_false (by omega)).symm];exact a
theorem qK {what v many:Int} (a:Q (.bool (lF what v many)) h):Cl Pr K 172 [I what,I v,I many] h Q:=by
 unfold lF at a;refine cW (dH (bK (fun c=>?_) (fun f=>bW (dH (bK (fun c=>?_) (fun g=>bW (dH (bK (fun c=>?_) (fun k=>bW (dH (bK (fun c=>?_) (fun q=>bW (dH (bK (fun c=>?_) (fun n5=>dH ?_)))))))))))))));rw[tu c] at a;refine gJ (bK (fun e=>aI ?_) (fun e=>?_));show Q _ _;rw[show decide (v<4)=decide (0<=v/\v<4) from decide_eq_decide.2 (by omega)];exact a;rw[decide_eq_false (by omega)] at a;exact a;rw[tt f,tu c] at a;exact a;rw[tt f,tt g,tu c] at a;refine gJ (bK (fun e=>mC ?_) (fun e=>?_));show Q _ _;rw[show decide (v<=3)=decide (1<=v/\v<=3) from decide_eq_decide.2 (by omega)];exact a;rw[decide_eq_false (by omega)] at a;exact a;rw[tt f,tt g,tt k,tu c] at a;refine gJ (bK (fun e=>mC ?_) (fun e=>?_));show Q _ _;rw[show decide (v<=4)=decide (1<=v/\v<=4) from decide_eq_decide.2 (by omega)];exact a;rw[decide_eq_false (by omega)] at a;exact a;rw[tt f,tt g,tt k,tt q,tu c] at a;refine gJ (bK (fun e=>mC ?_) (fun e=>?_));show Q _ _;rw[show decide (v<=many)=decide (0<=v/\v<=many) from decide_eq_decide.2 (by omega)];exact a;rw[decide_eq_false (by omega)] at a;exact a;rw[tt f,tt g,tt k,tt q,tt n5] at a;exact a
def lh (p:Int×Int):List Value:=[I p.1,I p.2]
theorem iI {x:Ins} (a:Hs G h L) (f:∀p e,Hs G e (aM p 0 x.enc::L)->Q (.func (.func 159) #[] #[pt p 0 0]) e):Cl Pr K 103 [.agg ⟨x.enc⟩] h Q:=by
 exact cW (fK a fun p h a=>f _ _ a)
theorem jI {x:Ins} {p:Nat} (g:xE x.op=true) (F:Ob G 0 eP):mo Pr K G 159 [] [pt p 0 0] (aM p 0 x.enc) (x.dV.map lh):=by
 intro u J y L h Q a P B D;have O:=of_decide_eq_true g;refine cW ?_;refine aB (aL a rfl (aB (aL a rfl (aB (aL a rfl (bG (c:=x.qE.map I) rfl ?_))))));have loop:∀(f i:Nat) (h:AH),i+f=3->Hs G h (aM p 0 x.enc::u ((x.dV.drop i).map lh)::L)->Dd 159 1 [] Q [y,(pt p 0 0),(.agg ⟨x.qE.map I⟩),(I i)] h:=by
  intro f;induction f with
  |zero=>
   intro i h N a;rw[List.drop_of_length_le (by rw[kW g];omega)] at a;exact bW (aI (aaa (B _ _ a)))
  |succ f R=>
   intro i h N a;obtain⟨q,k,E⟩:=kI (l:=x.dV) (i:=i) (by rw[kW g];omega);rw[zQ g (by omega)] at k;simp only[Option.some.injEq] at k;rw[E] at a;have w:i=0\/i=1\/i=2:=by omega
   have z:(x.qE.map I)[i]?=some (I q.2):=by
    rw[<-k];rcases w with rfl|rfl|rfl<;>rfl
   refine bW (aI (aad (bW (Pd (by omega) z (aB (aL a rfl (vV (i:=x.op.toNat) (by omega) (by omega) (aB (mO (by omega) ?_)))))))));refine zE a F (Ae (by omega) (by omega)) ?_;have t:(jU x.op.toNat).getD i 0=q.1:=by rw[<-k]
   rw[t];refine(P _ _ h _ a.pS).mono fun v A t=>?_;rcases t with⟨rfl,e⟩|⟨rfl,e⟩;exact cC (dK (bW (aac (R (i+1) A (by omega) e.pS))));exact cC (fO (D _ _ e.pS))
 exact loop 3 0 h rfl a
abbrev V1 (p1 p5:Nat) (many v:Int) (e:Nat->Value) (d l:Nat) (z:LoopState×Option Code) (c:Prop):HP:=sp [Kw c,Aq Pr 112 (yD 442) 22 e d l z,aM p5 0 [I many],aM p1 0 [I v]]
theorem oP {x:Ins} {many:Int} (D:Ob G 0 eP) (a:Hs G h L) (g:∀z,Hs G z L->Q (I (lZ x many)) z):Cl Pr K 112 [.agg ⟨x.enc⟩,I many] h Q:=by
 refine cW (fK a fun E h a=>fK a fun k h a=>aB (aL a rfl (oL (cC (xA (xC (fun t=>?_) (fun t=>?_)))))));rotate_left;have:=g h a.tail.tail;unfold lZ at this;rw[tt (by rw[t];decide)] at this;exact xD this;unfold lZ at g;rw[tu t] at g;refine bW (eN a fun p1 h a=>ax a fun h a=>bE a (by decide) (l:=x.enc) rfl rfl (iI a fun p h a=>Fa a fun d h a=>?_));intro e B;refine Lt a fun l h a=>Tp rfl ?_;have a:Hs G h (aM p 0 x.enc::V1 p1 k many 0 e d l (.ready,none) ((([]:List (Int×Int)).all fun p=>lF p.1 p.2 many)=true)::mk d ()::L):=by
  refine Hs.pS (mN rfl (Hs.Xm ?_));have a:=a.N0 (Aq Pr 112 (yD 442) 22 e d l (.ready,none)) (aM k 0 [I many]) (aM p1 0 [I 0]);exact a.to
 refine(jI (p:=p) t D).fold (X:=fun done=>V1 p1 k many 0 e d l (.ready,none) ((done.all fun p=>lF p.1 p.2 many)=true)) (Z:=fun _ y=>V1 p1 k many 10 e d l (.done,some (.exit 0)) (lF y.1 y.2 many=false)) a ?_ ?_ ?_
 .intro done y h M A a;obtain⟨q,f⟩:=iQ a;clear a;have a:=f.Wo;refine rW (Tm a) B (B1 a fun h a=>am k a rfl (qK (cC (xA (xC (fun u=>?_) (fun u=>?_))))));refine wS a fun h a=> .inl ⟨rfl,mN ?_ (Hs.Xm a.to)⟩;rw[List.all_append,q];simp[u];refine ax (b:=p1) (o:=0) a fun h a=>wS a fun h a=> .inr ⟨rfl,mN u (Hs.Xm ?_)⟩;exact a.to
 intro v h a;have a:=a.front (V1 p1 k many 0 e d l (.ready,none) ((x.dV.all fun p=>lF p.1 p.2 many)=true));obtain⟨q,f⟩:=iQ a;clear a;have a:=f.Wo;rw[tu q] at g;exact Mk a fun h a=>Li (am p1 a rfl (Kb a fun h a=>xD (g _ a.to)))
 .intro done y v h A a;have a:=a.front (V1 p1 k many 10 e d l (.done,some (.exit 0)) (lF y.1 y.2 many=false));obtain⟨q,f⟩:=iQ a;clear a;have a:=f.Wo;rw[tt ?_] at g;exact Nq a fun h a=>La rfl (am p1 a rfl (Kb a fun h a=>xD (g _ a.to)));obtain⟨F,w⟩:=A;rw[<-w];simp[q]
theorem lI {t:Value} {p:List Ins} {_v0 v1:Value} {e:TypeId} (v:v1=I p.length) (D:p.length<=32) (y:Ob G 0 eP) (k:∀q,Hs G q (lX G 4 e t (p.map Ins.enc)::L)->Q (.tuple ⟨[I (cQ p).1,I (cQ p).2]⟩) q):
  ∀(f i:Nat) (h:AH),i+f=p.length->cQ p=Kt p.length (p.drop i) i->Hs G h (lX G 4 e t (p.map Ins.enc)::L)->Dd 71 2 [] Q [t,t,v1,(I i)] h:=by
 subst v
 intro f
 induction f with
 |zero=>
  intro i h z g a
  rw[List.drop_of_length_le (by omega)] at g
  rw[g] at k
  exact bW (aI (aaa (k _ a)))
 |succ f B=>
  intro i h z g a
  obtain⟨x,A,w⟩:=kI (l:=p) (i:=i) (by omega)
  rw[w,Kt] at g
  obtain⟨F,J,u⟩:=gO a
  refine bW (aI (aad (bW (E5 a (by decide) (i:=i) (x:=x.enc) (by simp[A]) (eN a fun E h a=>?_)))))
  refine ax a fun h a=>bE a (by decide) (l:=x.enc) rfl rfl ?_
  rw[u]
  refine cM ?_
  rw[<-u,List.length_map]
  refine oP y a fun h a=>bC (bK (fun c=>?_) (fun c=>?_))
  .rw[tu c] at g;rw[g] at k;exact aac (k _ a.tail)
  .rw[tt c] at g;exact bW (aac (B (i+1) h (by omega) g a.tail))
theorem kJ {t:Value} {p:List Ins} {e:TypeId} (q:Ob G 0 eP) (f:Hs G h (lX G 4 e t (p.map Ins.enc)::L)) (a:∀g,Hs G g (lX G 4 e t (p.map Ins.enc)::L)->Q (.tuple ⟨[I (cQ p).1,I (cQ p).2]⟩) g):
  Cl Pr K 71 [t] h Q:=by
 obtain⟨v,w,u⟩:=gO f
 have len:∀{k:Value->Prop},k (I p.length)->aK (eO t) k:=fun a=>by
  rw[u];refine cM ?_;rw[List.length_map];exact a
 refine cW (len (fY (bK (fun c=>?_) (fun c=>?_))))
 .have:=a h f;unfold cQ at this;rw[aae] at this;exact this
 .refine bW (len (lI (_v0:=t) rfl (by omega) q a p.length 0 h (by omega) ?_ f));unfold cQ;rw[aab];rfl
end
end Go.Proofs.YtcjlkjeeifemhaaGreatDoor
section
open Go Go.Ab
attribute [local irreducible] aK Br vH sW vI tX iM tM gT Q2 qF uH sB mL mI eO rX vM Hb Oy K8 Kr N1 Hq Jd O5 Kq kK oK nZ gF copyV iP sL P0 Ha yK hQ Ku P1 Pn jL mP sA sN Cl yC Lu nO mZ fP eD aY aR
namespace Go.Proofs.YtcjlkjeeifemhaaGreatDoor
open Go Go.Ab Go.Hm Go.At
section
set_option maxRecDepth 100000
variable {G:Bg} {h:AH} {L L':List HP} {Q:Value->AH->Prop}
theorem R7 {C:aZ} (g:Ob G 1 jM) (a:Hs G h L) (e:∀f,Hs G f L->Q (I (if C.Ok then C.lines else 0:Nat)) f):Cl Pr K 53 [.agg ⟨C.enc⟩] h Q:=by
 by_cases hC:C.Ok;rw[tu hC] at e;exact tU hC g a e;rw[tt hC] at e;refine cW ?_;refine fK a ?_;intro p h a;refine bE a (by decide) (l:=C.enc) rfl rfl (eK g a fun h a=>?_);rw[tt hC];exact bC (aad (e _ a.tail))
theorem R0 {C:aZ} (g:Ob G 1 jM) (a:Hs G h L) (f:∀e,Hs G e L->Q (I ((if C.Ok then C.lines else 0:Nat)*2:Nat)) e):Cl Pr K 70 [.agg ⟨C.enc⟩] h Q:=by
 refine cW (fK a fun p h a=>?_);refine bE a (by decide) (l:=C.enc) rfl rfl (R7 g a fun h a=>?_);have hb:(if C.Ok then C.lines else 0:Nat)<=32:=by
  split;rename_i hC;exact(aZ.fC hC).2.2;omega
 refine Vc (by omega) ?_;have:=f _ a.tail;rw[Int.natCast_mul] at this;exact this
theorem I9 {C:aZ} (hC:C.Ok) (f:Ob G 1 jM) (g:Hs G h L) (e:∀a,Hs G a L->Q (I (C.lines*2:Nat)) a):Cl Pr K 70 [.agg ⟨C.enc⟩] h Q:=
 R0 f g (by rw[tu hC];exact e)
theorem Qx {C:aZ} (hC:C.Ok) {w:Int} (q:Ob G 1 jM) (a:Hs G h L)
  (e:∀f,Hs G f L->Q (if 0<=w/\w<C.lines*2 then .tuple ⟨[I (w.toNat/2:Nat),I (w.toNat % 2:Nat),I 0]⟩ else .tuple ⟨[I 0,I 0,I 10]⟩) f):Cl Pr K 138 [.agg ⟨C.enc⟩,I w] h Q:=by
 refine cW (fK a fun p h a=>aI (bK (fun g=>?_) (fun g=>?_)))
 .have:=e _ a.tail;rw[aab] at this;exact this
 .refine bE a (by decide) (l:=C.enc) rfl rfl (I9 hC q a fun h a=>gJ (bK (fun k=>?_) (fun k=>?_)))
  .have:=e _ a.tail;rw[aab] at this;exact this
  .have hb:=(aZ.fC hC).2.2;have:=e _ a.tail;rw[aae] at this;obtain⟨n,rfl⟩:∃n:Nat,w=n:=⟨w.toNat,by omega⟩;refine bg (by omega) (by omega) (by omega) (T4 (by omega) (by omega) ?_);exact this
theorem Xr {o:Int} (a:Q (.bool (decide (0<=o/\o<=4))) h):Cl Pr K 140 [I o] h Q:=by
 refine cW (gJ (bK (fun e=>mC ?_) (fun e=>?_)));show Q _ _;rw[show decide (o<=4)=decide (0<=o/\o<=4) from decide_eq_decide.2 (by omega)];exact a;show Q _ _;rw[show false=decide (0<=o/\o<=4) from(decide_eq_false (by omega)).symm];exact a
end
end Go.Proofs.YtcjlkjeeifemhaaGreatDoor
namespace Go.Proofs.YtcjlkjeeifemhaaGreatDoor
open Go Go.Ab Go.Hm Go.At Go.Mc
section
instance:Fx Cj.enc 2:=⟨fun _=>rfl,fun _=>rfl⟩
set_option maxRecDepth 100000
variable {G:Bg} {h:AH} {L L':List HP} {Q:Value->AH->Prop}
def Cn (t:Nat) (es:List Cj):HP:=B9 fun x:Option Addr×Nat=>sp [aM t 0 [.slice x.1 es.length x.2],ls Cj.enc 2 202 x.1 x.2 es]
theorem S2 {t:Nat} {es:List Cj} (e:Hs G h (Cn t es::L)):∃a c,Hs G h (aM t 0 [.slice a es.length c]::ls Cj.enc 2 202 a c es::L):=by
 obtain⟨⟨a,c⟩,e⟩:=e.Wd;exact⟨a,c,e.ly⟩
theorem oD {t:Nat} {es:List Cj} {a:Option Addr} {c:Nat} (e:Hs G h (aM t 0 [.slice a es.length c]::ls Cj.enc 2 202 a c es::L)):Hs G h (Cn t es::L):=
 Hs.B8 (A:=fun x:Option Addr×Nat=>sp [aM t 0 [.slice x.1 es.length x.2],ls Cj.enc 2 202 x.1 x.2 es]) (a,c) e.im
theorem Qj {t:Nat} {es:List Cj} {g:Int} {x:Cj} (f:Hs G h L) [m:Has (Cn t) L es L']
  (k:∀q,Hs G q (Cn t (if(0<=g/\g<es.length)/\(0<=x.owner/\x.owner<=4) then es.set g.toNat x else es)::L')->Q (I (if(0<=g/\g<es.length)/\(0<=x.owner/\x.owner<=4) then 0 else 10)) q):Cl Pr K 94 [pt t 0 0,I g,.agg ⟨x.enc⟩] h Q:=by
 obtain⟨a,c,f⟩:=S2 (m.of f)
 refine cW (fK f fun p h f=>Nv (dK (bW (aI (bK (fun u=>?_) (fun u=>?_))))))
 .rw[aab,aab] at k;exact k _ (oD f.tail)
 .refine bI (aB (am t f rfl (cM (gJ (bK (fun v=>?_) (fun v=>?_))))))
  .rw[aab,aab] at k;exact k _ (oD f.tail)
  .refine aB (am p f rfl (Xr (cC (xA (bK (fun w=>bW (dW f fun r h f=>?_)) (fun w=>?_))))))
   .rw[aae,aae] at k;refine bI (aB (am t f rfl (an p f (l:=x.enc) rfl rfl (W6 (l:=es) (a:=a) (c:=c) (enc:=Cj.enc) (e:=202) (y:=x) f (by decide) (by omega) (by omega) fun h f=>k _ ?_))));have:Hs G h (aM t 0 [.slice a es.length c]::ls Cj.enc 2 202 a c (es.set g.toNat x)::L'):=f.to;rw[<-List.length_set (i:=g.toNat) (a:=x)] at this;exact oD this
   .rw[aab,aab] at k;exact k _ (oD f.tail)
theorem tI (n:Nat):cS [I 0,.bool false] n=eL Cj.enc (List.replicate n C2):=by
 induction n with
 |zero=>rfl
 |succ n a=>rw[List.replicate_succ,kS,<-a];rfl
theorem Qp {n:Int} (t:1<=n/\n<=16) (f:Hs G h L) (q:∀k g,Hs G g (Cn k (List.replicate n.toNat C2)::L)->Q (.tuple ⟨[pt k 0 0,I 0]⟩) g):Cl Pr K 93 [I n] h Q:=by
 refine cW (aI (aaa (fY (aaa (G4 (by omega) (by omega) (by omega) ?_)))));refine fS (W:=2) (n:=n.toNat) (c:=n.toNat) f (by rw[tI,Gh,List.length_replicate]) rfl (by rw[tI];exact M0) ?_;intro a h f;refine bG (c:=[.slice (some a) n.toNat n.toNat]) rfl (fK f fun p h f=>q _ _ ?_);rw[tI] at f;have e:(List.replicate n.toNat C2).length=n.toNat:=List.length_replicate;refine oD (a:=some a) (c:=n.toNat) ?_;unfold ls;rw[e];exact f
end
end Go.Proofs.YtcjlkjeeifemhaaGreatDoor
end
namespace Go.Proofs.YtcjlkjeeifemhaaGreatDoor
open Go Go.Ab Go.Hm Go.At Go.Mc
section
set_option maxRecDepth 100000
attribute [local irreducible] aK Br vH sW vI tX iM tM gT Q2 qF uH sB mL mI eO rX vM Hb Oy K8 Kr N1 Hq Jd O5 Kq kK oK nZ gF copyV iP sL P0 Ha yK hQ Ku P1 Pn jL mP sA sN Cl yC Lu nO mZ fP eD aY aR
variable {G:Bg} {h:AH} {L L':List HP} {Q:Value->AH->Prop}
end
end Go.Proofs.YtcjlkjeeifemhaaGreatDoor
section
open Go Go.Ab
attribute [local irreducible] aK Br vH sW vI tX iM tM gT Q2 qF uH sB mL mI eO rX vM Hb Oy K8 Kr N1 Hq Jd O5 Kq kK oK nZ gF copyV iP sL P0 Ha yK hQ Ku P1 Pn jL mP sA sN Cl yC Lu nO mZ fP eD aY aR
namespace Go.Proofs.YtcjlkjeeifemhaaGreatDoor
open Go Go.Ab Go.Hm Go.At Go.Mc
section
set_option maxRecDepth 100000
variable {G:Bg} {h:AH} {L L':List HP} {Q:Value->AH->Prop}
end
end Go.Proofs.YtcjlkjeeifemhaaGreatDoor
namespace Go.Proofs.YtcjlkjeeifemhaaGreatDoor.H
open Go Go.Ab Go.Hm
section
set_option maxRecDepth 100000
variable {G:Bg} {h:AH} {L L':List HP}
def oX (b o:Nat) (r:Row):HP:=fun q=>∃a c,star [aM b o (r.enc a c),cB 9 211 a c (r.waits.length,Bu r.waits)] q
theorem Qy {b o:Nat} {r:Row} (e:Hs G h (oX b o r::L)):∃a c,Hs G h (aM b o (r.enc a c)::cB 9 211 a c (r.waits.length,Bu r.waits)::L):=by
 obtain⟨q,v,⟨a,c,u⟩,g,f,k,t⟩:=e.fst;exact⟨a,c,e.base,e.old,e.wf,e.fr,_,(dP (L:=[_,_])).2 ⟨q,v,u,g,f,rfl⟩,(aU.dA f).2 ⟨k,t⟩⟩
theorem Bo {b o:Nat} (r:Row) {a:Option Addr} {c:Nat} (f:Hs G h (aM b o (r.enc a c)::cB 9 211 a c (r.waits.length,Bu r.waits)::L)):Hs G h (oX b o r::L):=
 Hs.join (A:=[_,_]) f fun _ e=>⟨a,c,e⟩
end
section
set_option maxRecDepth 100000
variable {G:Bg} {h:AH} {L L':List HP}
end
section
set_option maxRecDepth 100000
variable {G:Bg} {h:AH} {L L':List HP}
def A9 (mb:Nat) (C:aZ) (b o cap:Nat):List Value:=[pt mb 0 0,I C.aS,I C.cH,I C.xW,I C.ways,I C.depth,I C.entries,I C.aF,.slice (some ⟨b,o,none⟩) C.lines cap]
structure r5 where
 mb:Nat
 b:Nat
 o:Nat
 cap:Nat
def ey (G:Bg) (hb:Nat) (C:aZ) (H:Er) (x:r5):List HP:=
 [aM hb 0 (A9 x.mb C x.b x.o x.cap),hU G C.lines x.mb C (fun i=>(H i).2),hole G 25 230 (some ⟨x.b,x.o,none⟩) x.cap C.lines x.b x.o,iT C.lines fun i=>oX x.b (x.o+i*25) (H i).1]
def xY (G:Bg) (hb:Nat) (C:aZ) (H:Er):HP:=B9 fun x:r5=>sp (ey G hb C H x)
def Sq (b o n:Nat) (H:Er) (l:Nat):HP:=sp (((List.range n).erase l).map fun i=>oX b (o+i*25) (H i).1)
theorem I1 {hb:Nat} {C:aZ} {H:Er} (a:Hs G h (xY G hb C H::L)):∃mb b o cap,Hs G h (aM hb 0 (A9 mb C b o cap)::hU G C.lines mb C (fun i=>(H i).2)::hole G 25 230 (some ⟨b,o,none⟩) cap C.lines b o::iT C.lines (fun i=>oX b (o+i*25) (H i).1)::L):=by
 obtain⟨⟨mb,b,o,cap⟩,a⟩:=a.Wd;exact⟨mb,b,o,cap,a.unpack⟩
theorem Wy {hb l:Nat} {C:aZ} {H:Er} (e:l<C.lines) (a:Hs G h (xY G hb C H::L)):∃mb b o cap,Hs G h (oX b (o+l*25) (H l).1::aM hb 0 (A9 mb C b o cap)::hU G C.lines mb C (fun i=>(H i).2)::hole G 25 230 (some ⟨b,o,none⟩) cap C.lines b o::Sq b o C.lines H l::L):=by
 obtain⟨mb,b,o,cap,a⟩:=I1 a;have a:=(a.front (iT C.lines fun i=>oX b (o+i*25) (H i).1)).Ga l e;exact⟨mb,b,o,cap,(show Hs G h (oX b (o+l*25) (H l).1::Sq b o C.lines H l::_) from a).to⟩
theorem vO {hb:Nat} {C:aZ} {H:Er} {mb b o cap:Nat} (a:Hs G h (aM hb 0 (A9 mb C b o cap)::hU G C.lines mb C (fun i=>(H i).2)::hole G 25 230 (some ⟨b,o,none⟩) cap C.lines b o::iT C.lines (fun i=>oX b (o+i*25) (H i).1)::L)):Hs G h (xY G hb C H::L):=
 Hs.B8 (A:=fun x=>sp (ey G hb C H x)) ⟨mb,b,o,cap⟩ (Hs.pack (A:=ey G hb C H ⟨mb,b,o,cap⟩) a)
theorem mem_of {H:Er} {l:Nat} {x:r6}:(fun i=>(eG H l x i).2)=eG (fun i=>(H i).2) l x.2:=by
 funext i;unfold eG;split<;>rfl
theorem Vi {g k q t e:List HP} (hb:Nat) (C:aZ) (H:Er) (l:Nat) (r:Row) (m:Ln) (mem:Nat->Ln) (mb b o cap:Nat) (v:l<C.lines) (w:mem=eG (fun i=>(H i).2) l m) (a:Hs G h L) [y:dJ (oX b (o+l*25) r) L g] [z:dJ (aM hb 0 (A9 mb C b o cap)) g k] [A:dJ (hU G C.lines mb C mem) k q]
  [B:dJ (hole G 25 230 (some ⟨b,o,none⟩) cap C.lines b o) q t] [D:dJ (Sq b o C.lines H l) t e]:Hs G h (xY G hb C (eG H l (r,m))::e):=by
 subst w
 have a:Hs G h (oX b (o+l*25) r::Sq b o C.lines H l::aM hb 0 (A9 mb C b o cap)::hU G C.lines mb C (eG (fun i=>(H i).2) l m)::hole G 25 230 (some ⟨b,o,none⟩) cap C.lines b o::e):=
  (a.perm (y.perm.trans ((z.perm.trans ((A.perm.trans ((B.perm.trans (D.perm.cons _)).cons _)).cons _)).cons _))).to
 have u:(fun i=>oX b (o+i*25) (eG H l (r,m) i).1) l=oX b (o+l*25) r:=by simp only[rT]
 rw[<-u] at a
 unfold Sq at a
 have a:=a.Gv (n:=C.lines) (i:=l) (fun i=>oX b (o+i*25) (H i).1) (fun i=>oX b (o+i*25) (eG H l (r,m) i).1) v (fun j _ f=>by simp only[uR f])
 rw[<-mem_of (x:=(r,m))] at a
 exact vO (mb:=mb) (b:=b) (o:=o) (cap:=cap) a.to
section
variable {b o p:Nat} {r:Row} {wa:Option Addr} {wc:Nat} {line:Int} {d:Ln} {Q:Value->AH->Prop}
theorem T9 (b o:Nat) (r:Row) (a:Option Addr) (c:Nat) {c':List Value} {n:Nat} {cs:List Value} {f g:List HP} (t:Hs G h L) [m:Has (aM b o) L c' f] (k:c'=r.enc a c) [m2:Has (cB 9 211 a c) f (n,cs) g] (q:n=r.waits.length) (e:cs=Bu r.waits):Hs G h (oX b o r::g):=by
 subst k;subst q;subst e;exact Bo r (t.perm (m.perm.trans (m2.perm.cons _)))
end
theorem Wi {H:Er} {l:Nat}:eG (fun i=>(H i).2) l (H l).2=fun i=>(H i).2:=Rz
end
section
set_option maxRecDepth 100000
variable {G:Bg} {h:AH} {L L':List HP}
section
variable {hb p mb b o cap l:Nat} {C:aZ} {H:Er} {n:eC} {r:Row} {m:Ln} {Q:Value->AH->Prop}
end
end
end Go.Proofs.YtcjlkjeeifemhaaGreatDoor.H
namespace Go.Proofs.YtcjlkjeeifemhaaGreatDoor
open Go Go.Ab Go.Hm Go.At Go.Mc
section
def U7 (f:Nat->Option Mc.mT) (k:Nat):Option Value:=(f k).map fun r=> .agg ⟨r.enc⟩
set_option maxRecDepth 100000
variable {G:Bg} {h:AH} {L L' M:List HP} {Q:Value->AH->Prop} {C:aZ} {m:Mon} {p:Nat}
def Wf (C:aZ) (p:Nat) (m:Mon):HP:=B9 fun x:Nat×Nat=>sp [aM p 0 [pt x.1 0 0,I C.aS,Cx x.2],Cn x.1 m.Vb,K5 x.2 (U7 m.runs)]
theorem P9 {t b:Nat} (a:Hs G h (aM p 0 [pt t 0 0,I C.aS,Cx b]::Cn t m.Vb::K5 b (U7 m.runs)::L)):Hs G h (Wf C p m::L):=
 Hs.B8 (A:=fun x:Nat×Nat=>sp [aM p 0 [pt x.1 0 0,I C.aS,Cx x.2],Cn x.1 m.Vb,K5 x.2 (U7 m.runs)]) (t,b) a.Xm
end
end Go.Proofs.YtcjlkjeeifemhaaGreatDoor
namespace Go.Proofs.YtcjlkjeeifemhaaGreatDoor
open Go Go.Ab Go.Hm Go.At
section
set_option maxRecDepth 100000
variable {G:Bg} {h:AH} {L L':List HP} {Q:Value->AH->Prop}
theorem Vu {C:aZ} (hC:C.Ok) {mb l:Nat} {mem:Nat->Ln} (x:l<C.lines) (e:Hs G h (hU G C.lines mb C mem::L)):
  ∃(b o cap:Nat) (r w:Int) (f g cp:Nat) (H:HP),Hs G h (aM mb 0 (C.enc++[.slice (some ⟨b,o,none⟩) C.aF.toNat cap])::aM b (o+(l % C.aF.toNat)*3) [I r,I w,.slice (some ⟨f,g,none⟩) (gI C.lines C.aF.toNat (l % C.aF.toNat)) cp]::aM f (g+l/C.aF.toNat*2) (Se (mem l))::H::L)/\
   ∀v q M,Hs G q (aM mb 0 (C.enc++[.slice (some ⟨b,o,none⟩) C.aF.toNat cap])::aM b (o+(l % C.aF.toNat)*3) [I r,I w,.slice (some ⟨f,g,none⟩) (gI C.lines C.aF.toNat (l % C.aF.toNat)) cp]::aM f (g+l/C.aF.toNat*2) (Se v)::H::M)->Hs G q (hU G C.lines mb C (eG mem l v)::M):=by
 have hb:=aZ.bk hC
 obtain⟨b,o,cap,e⟩:=J8 e
 have e:=(e.front (iT C.aF.toNat fun i=>iU C.lines C.aF.toNat b (o+i*3) i mem)).Ga (l % C.aF.toNat) (Nat.mod_lt _ hb.2.1)
 obtain⟨r,w,a,cp,e⟩:=Ep e
 have t:=Ou hb.2.1 x
 obtain⟨f,g,rfl,H,e,k⟩:=Hs.l8 (Zp (B:=C.aF.toNat) (i:=l % C.aF.toNat) (mem:=mem)) t (e.front (cB 2 189 a cp (gI C.lines C.aF.toNat (l % C.aF.toNat),(List.range (gI C.lines C.aF.toNat (l % C.aF.toNat))).flatMap (Kx C.aF.toNat (l % C.aF.toNat) mem))))
 rw[cn hb.2.1] at e
 refine⟨b,o,cap,r,w,f,g,cp,sp [H,sp (((List.range C.aF.toNat).erase (l % C.aF.toNat)).map fun i=>iU C.lines C.aF.toNat b (o+i*3) i mem),hole G 3 290 (some ⟨b,o,none⟩) cap C.aF.toNat b o],e.to,?_⟩
 intro v q M e
 have e:=(e.front (sp [H,sp (((List.range C.aF.toNat).erase (l % C.aF.toNat)).map fun i=>iU C.lines C.aF.toNat b (o+i*3) i mem),hole G 3 290 (some ⟨b,o,none⟩) cap C.aF.toNat b o])).Wo
 have e:=k _ _ _ rfl rfl (e.lT (aM f (g+l/C.aF.toNat*2) (Se v)) H)
 rw[Yy hb.2.1] at e
 have e:=tH (e.sg (b:=b) (o:=o+l % C.aF.toNat*3) (c:=[I r,I w,.slice (some ⟨f,g,none⟩) (gI C.lines C.aF.toNat (l % C.aF.toNat)) cp]) rfl)
 exact Eb (b:=b) (o:=o) (cap:=cap) ((e.Gv (n:=C.aF.toNat) (i:=l % C.aF.toNat) (fun i=>iU C.lines C.aF.toNat b (o+i*3) i mem) (fun i=>iU C.lines C.aF.toNat b (o+i*3) i (eG mem l v)) (Nat.mod_lt _ hb.2.1) (fun i y u=>by simp only[iU,ep y u])).to)
theorem Xu {C:aZ} (hC:C.Ok) {mb w:Nat} {mem:Nat->Ln} (x:Ob G 1 jM) (a:Hs G h (hU G C.lines mb C mem::L)) (A:w<C.lines*2)
  (z:∀(g k:Nat) (H:HP) e,Hs G e (aM g k (Se (mem (w/2)))::H::L)->(∀v e M,Hs G e (aM g k (Se v)::H::M)->Hs G e (hU G C.lines mb C (eG mem (w/2) v)::M))->Q (.tuple ⟨[pt g k (0+w % 2*1),I 0]⟩) e):Cl Pr K 92 [pt mb 0 0,I w] h Q:=by
 have hb:=aZ.bk hC
 have q:w/2<C.lines:=by omega
 obtain⟨b,o,cap,r,y,g,k,u,H,a,f⟩:=Vu hC q a
 refine cW (Nv (dK (bW (bI (aB (an mb a (l:=C.enc) rfl rfl (Qx hC x a fun h a=>?_)))))))
 rw[aae]
 refine aE rfl (aE rfl (aE rfl (bC (aaa (bW ?_)))))
 rw[Int.toNat_natCast]
 refine Zk hC x a q fun h a=>aE rfl (aE rfl (aE rfl (bC (aaa (bI (aB (aL (b:=b) (o:=o+(w/2) % C.aF.toNat*3) a rfl ?_)))))))
 have t:=Ou hb.2.1 q
 refine gB t (mO (by omega) ?_)
 refine z _ _ (sp [aM mb 0 (C.enc++[.slice (some ⟨b,o,none⟩) C.aF.toNat cap]),aM b (o+(w/2 % C.aF.toNat)*3) [I r,I y,.slice (some ⟨g,k,none⟩) (gI C.lines C.aF.toNat (w/2 % C.aF.toNat)) u],H]) _ a.to fun v e M a=>?_
 have a:=(a.front (sp [aM mb 0 (C.enc++[.slice (some ⟨b,o,none⟩) C.aF.toNat cap]),aM b (o+(w/2 % C.aF.toNat)*3) [I r,I y,.slice (some ⟨g,k,none⟩) (gI C.lines C.aF.toNat (w/2 % C.aF.toNat)) u],H])).Wo
 exact f v e M a.to
theorem Eo {C:aZ} (hC:C.Ok) {mb w:Nat} {v:Int} {mem:Nat->Ln} (x:Ob G 1 jM) (a:Hs G h L) [m:Has (hU G C.lines mb C) L mem L'] (u:w<C.lines*2)
  (q:∀k,Hs G k (hU G C.lines mb C (On mem w v)::L')->Q (I 0) k):Cl Pr K 46 [pt mb 0 0,I w,I v] h Q:=by
 refine cW (Xu hC x (m.of a) u fun g t H h a f=>aE rfl (aE rfl (bC (aaa (bW (bI ?_))))))
 have e:w % 2=0\/w % 2=1:=by omega
 rcases e with e|e
 .rw[e];refine ay (b:=g) (o:=t) a fun h a=>?_;have a:=f (v,(mem (w/2)).2) _ _ a;have:=q _ (by unfold On;rw[tu e];exact a);exact this
 .rw[e];refine ay (b:=g) (o:=t) a fun h a=>?_;have a:=f ((mem (w/2)).1,v) _ _ a;have:=q _ (by unfold On;rw[aab];exact a);exact this
end
end Go.Proofs.YtcjlkjeeifemhaaGreatDoor
namespace Go.Proofs.YtcjlkjeeifemhaaGreatDoor.A
open Go Go.Ab Go.Hm Go.At Go.Is
section
set_option maxRecDepth 100000
variable {G:Bg} {h:AH} {L L':List HP} {Q:Value->AH->Prop}
theorem Iq {v:Value} {a b:Int} {l:List Int} {e:TypeId} (B:l.length<1000000) (q:∀t,Hs G t (lX G 1 e v (l.map fun x=>[I x])::L)->Q (.bool (within a b l)) t):
  ∀(f i:Nat) (h:AH),i+f=l.length->within a b l=within a b (l.drop i)->Hs G h (lX G 1 e v (l.map fun x=>[I x])::L)->Dd 72 1 [] Q [(I a),(I b),v,(I l.length),(I i)] h:=by
 intro f
 induction f with
 |zero=>
  intro i h y g k
  rw[List.drop_of_length_le (by omega)] at g
  refine bW (aI (aaa ?_))
  have:=q _ k
  rw[g] at this
  exact this
 |succ f A=>
  intro i h y g k
  obtain⟨x,z,w⟩:=kI (l:=l) (i:=i) (by omega)
  rw[w] at g
  have u:within a b (x::l.drop (i+1))=(decide (a<=x/\x<=b)&&within a b (l.drop (i+1))):=rfl
  rw[u] at g
  refine bW (aI (aad (bW (fZ k (x:=[I x]) (by simp[z]) rfl (aI (bK (fun c=>?_) (fun c=>fY (bK (fun d=>?_) (fun d=>?_)))))))))
  .have:=q _ k;rw[g,decide_eq_false (by omega)] at this;exact this
  .have:=q _ k;rw[g,decide_eq_false (by omega)] at this;exact this
  .rw[decide_eq_true (by omega),Bool.true_and] at g;exact bW (aac (A (i+1) h (by omega) g k))
theorem D1 {v:Value} {a b:Int} {l:List Int} {e:TypeId} (t:l.length<1000000) (k:Hs G h (lX G 1 e v (l.map fun x=>[I x])::L)) (q:∀g,Hs G g (lX G 1 e v (l.map fun x=>[I x])::L)->Q (.bool (within a b l)) g):Cl Pr K 72 [I a,I b,v] h Q:=by
 obtain⟨w,y,u⟩:=gO k;refine cW ?_;have f:=Iq (L:=L) (a:=a) (b:=b) t q l.length 0 h (by omega) rfl k;rw[u] at f ⊢;simp only[List.length_map] at f ⊢;exact cM f
end
section
set_option maxRecDepth 100000
variable {G:Bg} {h:AH} {L L':List HP} {Q:Value->AH->Prop}
def qZ (p:List Ins):List Value:=p.flatMap Ins.enc
theorem Ye {p:List Ins} {i:Nat} (e:i<p.length):((qZ p).drop (i*4)).take 4=(p.getD i ⟨0,0,0,0⟩).enc:=by
 have a:=(lE (W:=4) (l:=p.map Ins.enc) (i:=i) (x:=(p.getD i ⟨0,0,0,0⟩).enc) (by simp[Ins.enc]) (by simp[List.getD_eq_getElem?_getD,List.getElem?_eq_getElem e])).1;rw[<-a];rfl
theorem Xy {p:List Ins} {i:Nat} (f:i<p.length):(qZ p)[i*4+0]?=some (I (p.getD i ⟨0,0,0,0⟩).op):=by
 have e:=Ye f;have a:(((qZ p).drop (i*4)).take 4)[0]?=some (I (p.getD i ⟨0,0,0,0⟩).op):=by rw[e];rfl
 rw[List.getElem?_take_of_lt (by omega),List.getElem?_drop] at a;exact a
theorem Fp {s:cA} {b q c:Nat} {a:Option Addr} {at':Int} (u:0<=at') (f:Hs G h (aM b q (s.core++[.slice a s.prog.length c])::cB 4 155 a c (s.prog.length,qZ s.prog)::L))
  (t:∀k,Hs G k (aM b q ((s.nY at').core++[.slice a s.prog.length c])::cB 4 155 a c (s.prog.length,qZ s.prog)::L)->Q (.tuple ⟨[]⟩) k):Cl Pr K 76 [pt b q 0,I at'] h Q:=by
 refine cW (bI (aB (aB (ay f fun h f=>bI (aB (aL (b:=b) (o:=q) f rfl (cM (gJ (bK (fun g=>?_) (fun g=>?_))))))))))
 .refine bI (aB (aB (ay (b:=b) (o:=q) f fun h f=>?_)));refine t _ ?_;have e:s.nY at'={s with at':=at',over:=true}:=by unfold cA.nY Am;rw[tu g]
  rw[e]
  exact f
 .obtain⟨n,rfl⟩:∃n:Nat,at'=n:=⟨at'.toNat,by omega⟩;refine bI (aB (aL (b:=b) (o:=q) f rfl (Tq (W:=4) (e:=155) (cs:=qZ s.prog) f (by omega) (Xy (by omega)) (dH (bI (aB (aB (ay (b:=b) (o:=q) f fun h f=>?_))))))));refine t _ ?_;have e:s.nY n={s with at':=n,over:=decide ((s.prog.getD n ⟨0,0,0,0⟩).op=11)}:=by unfold cA.nY Am;rw[tt g];rfl
  rw[e]
  exact f
end
end Go.Proofs.YtcjlkjeeifemhaaGreatDoor.A
namespace Go.Proofs.YtcjlkjeeifemhaaGreatDoor
open Go Go.Ab Go.Hm Go.At Go.Mc
section
set_option maxRecDepth 100000
variable {G:Bg} {h:AH} {L L' M:List HP} {Q:Value->AH->Prop} {C:aZ} {m:Mon} {p:Nat}
end
end Go.Proofs.YtcjlkjeeifemhaaGreatDoor
namespace Go.Proofs.YtcjlkjeeifemhaaGreatDoor.A
open Go Go.Ab Go.Hm Go.At Go.Is
section
set_option maxRecDepth 100000
variable {G:Bg} {h:AH} {L L':List HP} {Q:Value->AH->Prop}
abbrev gu (pm:Nat) (C:aZ) (v:Value) (a:Option Addr) (n c mb:Nat):HP:=aM pm 0 (C.enc++[v,.slice a n c,pt mb 0 0])
end
section
set_option maxRecDepth 100000
variable {G:Bg} {h:AH} {L L':List HP} {Q:Value->AH->Prop}
end
section
set_option maxRecDepth 100000
variable {G:Bg} {h:AH} {L L':List HP} {Q:Value->AH->Prop}
def qA (b o:Nat) (s:cA):HP:=B9 fun x:Option Addr×Nat=>sp [aM b o (s.core++[.slice x.1 s.prog.length x.2]),cB 4 155 x.1 x.2 (s.prog.length,qZ s.prog)]
theorem Mr {b o c:Nat} {a:Option Addr} {s:cA} (e:Hs G h (aM b o (s.core++[.slice a s.prog.length c])::cB 4 155 a c (s.prog.length,qZ s.prog)::L)):Hs G h (qA b o s::L):=
 Hs.B8 (A:=fun x:Option Addr×Nat=>sp [aM b o (s.core++[.slice x.1 s.prog.length x.2]),cB 4 155 x.1 x.2 (s.prog.length,qZ s.prog)]) (a,c) (Hs.pack (A:=[_,_]) e)
structure ni where
 b:Nat
 o:Nat
 cap:Nat
 a:Option Addr
 c:Nat
 mb:Nat
def o8 (G:Bg) (pm:Nat) (m:AM) (x:ni):List HP:=[gu pm m.cfg (.slice (some ⟨x.b,x.o,none⟩) m.cfg.aS.toNat x.cap) x.a m.qX.length x.c x.mb,cB 1 3 x.a x.c (m.qX.length,m.qX.map I),hU G m.cfg.lines x.mb m.cfg m.mem,
  hole G 8 177 (some ⟨x.b,x.o,none⟩) x.cap m.cfg.aS.toNat x.b x.o,iT m.cfg.aS.toNat fun i=>qA x.b (x.o+i*8) (m.mK i)]
def jm (G:Bg) (pm:Nat) (m:AM):HP:=B9 fun x:ni=>sp (o8 G pm m x)
theorem Rn {pm:Nat} {m:AM} {b o cap c mb:Nat} {a:Option Addr} (e:Hs G h (gu pm m.cfg (.slice (some ⟨b,o,none⟩) m.cfg.aS.toNat cap) a m.qX.length c mb::cB 1 3 a c (m.qX.length,m.qX.map I)::hU G m.cfg.lines mb m.cfg m.mem::
  hole G 8 177 (some ⟨b,o,none⟩) cap m.cfg.aS.toNat b o::iT m.cfg.aS.toNat (fun i=>qA b (o+i*8) (m.mK i))::L)):Hs G h (jm G pm m::L):=
 Hs.B8 (A:=fun x:ni=>sp (o8 G pm m x)) ⟨b,o,cap,a,c,mb⟩ (Hs.pack (A:=o8 G pm m ⟨b,o,cap,a,c,mb⟩) e)
end
section
set_option maxRecDepth 100000
variable {G:Bg} {h:AH} {L L':List HP} {Q:Value->AH->Prop}
end
section
set_option maxRecDepth 100000
variable {G:Bg} {h:AH} {L L':List HP} {Q:Value->AH->Prop}
theorem Xb {v:Value} {l:List (List Value)} {e:TypeId} (u:l.length<=100) (k:l.flatten.all cT=true) (t:Hs G h (lX G 1 e v l::L)) (q:∀a f g,Hs G g (cB 1 3 a f (l.length,l.flatten)::lX G 1 e v l::L)->Q (.slice a l.length f) g):Cl Pr K 74 [v] h Q:=
 cW (Bn (bytes:=8) t (by decide) rfl k (by omega) q)
theorem Zl {v:Value} {l:List (List Value)} {e:TypeId} (u:l.length<=100) (k:l.flatten.all cT=true) (t:Hs G h (lX G 4 e v l::L)) (q:∀a f g,Hs G g (cB 4 155 a f (l.length,l.flatten)::lX G 4 e v l::L)->Q (.slice a l.length f) g):Cl Pr K 75 [v] h Q:=
 cW (Bn (bytes:=32) t (by decide) rfl k (by omega) q)
end
section
set_option maxRecDepth 100000
variable {G:Bg} {h:AH} {L L':List HP} {Q:Value->AH->Prop}
end
section
set_option maxRecDepth 100000
variable {G:Bg} {h:AH} {L L':List HP} {Q:Value->AH->Prop}
def nA (l:List Int):List (List Value):=l.map fun x=>[I x]
theorem jK (l:List Int):(nA l).length=l.length:=by simp[nA]
theorem vW (l:List Int):(nA l).flatten=l.map I:=by
 unfold nA;induction l with
 |nil=>rfl
 |cons x l a=>rw[List.map_cons,List.flatten_cons,a];rfl
theorem K3 (l:List Int):(l.map I).all cT=true:=by
 induction l with
 |nil=>rfl
 |cons x l a=>rw[List.map_cons,List.all_cons,a];rfl
def qV (p:List Ins):List (List Value):=p.map Ins.enc
theorem qT (p:List Ins):(qV p).length=p.length:=by simp[qV]
theorem Ed (p:List Ins):(qV p).flatten=qZ p:=by
 unfold qV qZ;rw[List.flatMap_def]
theorem Kz (p:List Ins):(qZ p).all cT=true:=by
 unfold qZ;induction p with
 |nil=>rfl
 |cons x l a=>rw[List.flatMap_cons,List.all_append,a];rfl
def qM (G:Bg) (v:Value) (l:List Int):Prop:=eJ G 1 v (nA l).length (fun i=>(nA l).getD i [])
def Hr (G:Bg) (v:Value) (p:List Ins):Prop:=eJ G 4 v (qV p).length (fun i=>(qV p).getD i [])
structure Ho (G:Bg) (pv wv ov vv:Value) (ps:List (List Ins)) (ws os vs:List Int):Prop where
 ps:∃vi:List Value,vi.length=ps.length/\eJ G 1 pv (vi.map fun x=>[x]).length (fun i=>(vi.map fun x=>[x]).getD i [])/\∀(i:Nat) (v:Value) (p:List Ins),vi[i]?=some v->ps[i]?=some p->Hr G v p
 ws:qM G wv ws
 os:qM G ov os
 vs:qM G vv vs
theorem iG {v:Value} {l:List Int} (a:qM G v l) (e:Hs G h L):Hs G h (lX G 1 3 v (nA l)::L):=eV (by simp[nA]) a e
theorem rP {v:Value} {p:List Ins} (a:Hr G v p) (e:Hs G h L):Hs G h (lX G 4 155 v (qV p)::L):=eV (by simp[qV,Ins.enc]) a e
theorem gQ {W n:Nat} {v:Value} {at':Nat->List Value} {k:Value->Prop} (f:eJ G W v n at') (e:k (I n)):aK (eO v) k:=by
 obtain⟨a,c,rfl,_⟩:=f;exact cM e
theorem K6 {_C:aZ} {t:Value} {t2 t3 t4 t5:Value} {vi:List Value} {ps:List (List Ins)} (K:vi.length=ps.length) (A:eJ G 1 t (vi.map fun x=>[x]).length (fun i=>(vi.map fun x=>[x]).getD i []))
  (y:∀(i:Nat) (v:Value) (p:List Ins),vi[i]?=some v->ps[i]?=some p->Hr G v p) (w:Ob G 0 eP) (J:ps.length<=1000000)
  (E:mQ ps≠0->∀k,Hs G k L->Q (.tuple ⟨[.pointer none,I (mQ ps)]⟩) k) (F:mQ ps=0->∀k,Hs G k L->Dd 28 5 [] Q [t,t2,t3,t4,t5] k):
  ∀(f i:Nat) (h:AH),i+f=ps.length->mQ ps=mQ (ps.drop i)->Hs G h L->Dd 28 3 [] Q [t,t2,t3,t4,t5,t,(I ps.length),(I i)] h:=by
 intro f
 induction f with
 |zero=>
  intro i h z a g
  rw[List.drop_of_length_le (by omega)] at a
  exact bW (aI (aaa (F a _ g)))
 |succ f D=>
  intro i h z a g
  obtain⟨p,B,u⟩:=kI (l:=ps) (i:=i) (by omega)
  obtain⟨v,q,_⟩:=kI (l:=vi) (i:=i) (by omega)
  rw[u,mQ] at a
  have g:=eV (e:=3) (by simp) A g
  refine bW (aI (aad (bW (fZ g (x:=[v]) (by simp[q]) rfl (kJ (p:=p) w (rP (y i v p q B) g.tail) fun h g=>aE rfl (aE rfl (bC (bK (fun c=>?_) (fun c=>?_)))))))))
  .rw[tu c] at a;rw[<-a];exact E (by rw[a];exact c) _ g.tail
  .rw[tt c] at a;exact bW (aac (D (i+1) h (by omega) a g.tail))
theorem Mg {C:aZ} (hC:C.Ok) {t1 t2 t3 t5 vv:Value} {mb:Nat} {vs:List Int} (w:qM G vv vs) (u:Ob G 1 jM) (A:vs.length=C.lines*2)
  (k:∀g,Hs G g (hU G C.lines mb C (words iS vs 0)::L)->Dd 28 11 [] Q [t1,t2,t3,t5,(pt mb 0 0)] g):
  ∀(f i:Nat) (mem:Nat->Ln) (h:AH),i+f=vs.length->words iS vs 0=words mem (vs.drop i) i->Hs G h (hU G C.lines mb C mem::L)->Dd 28 9 [] Q [t1,t2,t3,t5,(pt mb 0 0),vv,(I vs.length),(I i)] h:=by
 have v:=aZ.fC hC
 intro f
 induction f with
 |zero=>
  intro i mem h t e a
  rw[List.drop_of_length_le (by omega),words] at e
  rw[e] at k
  exact bW (aI (aaa (k _ a)))
 |succ f z=>
  intro i mem h t e a
  obtain⟨x,y,q⟩:=kI (l:=vs) (i:=i) (by omega)
  rw[q,words] at e
  have a:=iG w a
  refine bW (aI (aad (bW (fZ a (x:=[I x]) (by simp[nA,y]) rfl (Eo hC u a.tail (by omega) fun h a=>bC (aaa (bW (aac (z (i+1) _ h (by omega) e a)))))))))
end
end Go.Proofs.YtcjlkjeeifemhaaGreatDoor.A
namespace Go.Proofs.YtcjlkjeeifemhaaGreatDoor.H
open Go Go.Ab Go.Hm
section
set_option maxRecDepth 100000
variable {G:Bg} {h:AH} {L L':List HP}
section
variable {hb p mb b o cap l:Nat} {C:aZ} {H:Er} {n:eC} {r:Row} {m:Ln} {Q:Value->AH->Prop}
end
end
section
set_option maxRecDepth 100000
variable {G:Bg} {h:AH} {L L':List HP}
end
section
set_option maxRecDepth 100000
variable {G:Bg} {h:AH} {L L':List HP}
end
section
set_option maxRecDepth 100000
variable {G:Bg} {h:AH} {L L':List HP}
theorem Yt (C:aZ) (H:Er) (hb mb b o cap:Nat) {a e f g:List HP} (k:Hs G h L) [q:dJ (aM hb 0 (A9 mb C b o cap)) L a] [t:dJ (hU G C.lines mb C (fun i=>(H i).2)) a e]
  [u:dJ (hole G 25 230 (some ⟨b,o,none⟩) cap C.lines b o) e f] [v:dJ (iT C.lines fun i=>oX b (o+i*25) (H i).1) f g]:Hs G h (xY G hb C H::g):=
 vO (mb:=mb) (b:=b) (o:=o) (cap:=cap) (k.perm (q.perm.trans ((t.perm.trans ((u.perm.trans (v.perm.cons _)).cons _)).cons _)))
section
variable {C:aZ} {hb mb b o cap p l:Nat} {H:Er} {n:eC} {Q:Value->AH->Prop}
end
end
section
set_option maxRecDepth 100000
variable {G:Bg} {h:AH} {L L':List HP}
section
variable {C:aZ} {hb mb b o cap p l:Nat} {H:Er} {n:eC} {Q:Value->AH->Prop}
end
section
variable {C:aZ} {hb mb b o cap p l:Nat} {H:Er} {n:eC} {r:Row} {Q:Value->AH->Prop} {j:Int->Int->Int×Bool} {jv:Value}
end
end
end Go.Proofs.YtcjlkjeeifemhaaGreatDoor.H
end
namespace Go.Proofs.YtcjlkjeeifemhaaGreatDoor
open Go Go.Ab Go.Hm Go.At Go.Mc
section
set_option maxRecDepth 100000
attribute [local irreducible] aK Br vH sW vI tX iM tM gT Q2 qF uH sB mL mI eO rX vM Hb Oy K8 Kr N1 Hq Jd O5 Kq kK oK nZ gF copyV iP sL P0 Ha yK hQ Ku P1 Pn jL mP sA sN Cl yC Lu nO mZ fP eD aY aR
variable {G:Bg} {h:AH} {L L' M:List HP} {Q:Value->AH->Prop} {C:aZ} {m:Mon} {p:Nat}
end
end Go.Proofs.YtcjlkjeeifemhaaGreatDoor
section
open Go Go.Ab
attribute [local irreducible] aK Br vH sW vI tX iM tM gT Q2 qF uH sB mL mI eO rX vM Hb Oy K8 Kr N1 Hq Jd O5 Kq kK oK nZ gF copyV iP sL P0 Ha yK hQ Ku P1 Pn jL mP sA sN Cl yC Lu nO mZ fP eD aY aR
namespace Go.Proofs.YtcjlkjeeifemhaaGreatDoor
open Go Go.Ab Go.Hm Go.At Go.Mc
section
set_option maxRecDepth 100000
variable {G:Bg} {h:AH} {L L' M:List HP} {Q:Value->AH->Prop} {C:aZ} {m:Mon} {p:Nat}
end
section
set_option maxRecDepth 100000
variable {G:Bg} {h:AH} {L L' M:List HP} {Q:Value->AH->Prop} {C:aZ} {m:Mon} {p:Nat}
theorem vQ {ov:Value} {os:List Int} {k:Value->Prop} (e:A.qM G ov os) (a:k (I os.length)):aK (eO ov) k:=A.gQ e (by rw[A.jK];exact a)
theorem rG {α:Type} {l:List α} {i:Nat} (h:i<l.length):∃x,l[i]?=some x/\l.drop i=x::l.drop (i+1):=⟨l[i],by simp,List.drop_eq_getElem_cons h⟩
def lA (os:List Int):List Cj:=os.map fun o=>⟨o,false⟩
theorem Gk {ov:Value} {os:List Int} (t:A.qM G ov os) (z:os.length<=16) (u:∀o∈os,0<=o/\o<=4) {t0:Value} (k:∀e,Hs G e L->Dd 47 4 [] Q [t0,ov] e):
  ∀(f i:Nat) (h:AH),i+f=os.length->Hs G h L->Dd 47 2 [] Q [t0,ov,ov,(I os.length),(I i)] h:=by
 intro f
 induction f with
 |zero=>intro i h q a;exact bW (aI (aaa (k _ a)))
 |succ f w=>
  intro i h q a
  obtain⟨x,g,y⟩:=rG (l:=os) (i:=i) (by omega)
  have v:=u x (List.mem_of_getElem? g)
  have a:=A.iG t a
  exact bW (aI (aad (bW (fZ a (x:=[I x]) (by simp[A.nA,g]) rfl (aI (aaa (fY (aaa (bW (aac (w (i+1) h (by omega) a.tail)))))))))))
theorem Rc {os:List Int} {i:Nat} {x:Int} (a:os[i]?=some x):(lA (os.take i)++List.replicate (os.length - i) C2).set i ⟨x,false⟩=lA (os.take (i+1))++List.replicate (os.length - (i+1)) C2:=by
 obtain⟨g,f⟩:=List.getElem?_eq_some_iff.1 a;have e:(lA (os.take i)).length=i:=by simp[lA];omega
 rw[List.set_append_right _ _ (by omega),e,Nat.sub_self,show os.length - i=(os.length - (i+1))+1 by omega,List.replicate_succ,List.set_cons_zero,List.take_add_one,a];simp[lA]
theorem Rp {ov:Value} {os:List Int} (hC:C.Ok) (k:A.qM G ov os) (R:os.length=C.cH.toNat) (B:∀o∈os,0<=o/\o<=4) (a:Hs G h L) (J:∀q y,Hs G y (Wf C q ⟨lA os,fun _=>none⟩::L)->Q (.tuple ⟨[pt q 0 0,I 0]⟩) y):Cl Pr K 47 [I C.aS,ov] h Q:=by
 have O:=hC.1;have E:=hC.2.1;refine cW (aI (aaa (fY (aaa (vQ k (aI (aaa (vQ k (fY (aaa (bW (vQ k ?_))))))))))));refine Gk k (by omega) B ?_ os.length 0 h (by omega) a;intro h a;refine bW (vQ k (Qp (by omega) a fun t h a=>aE rfl (aE rfl (bC (aaa (bW (Vj a fun b h a=>?_)))))));refine bG (c:=[pt t 0 0,I C.aS,Cx b]) rfl (fK a fun q h a=>vQ k ?_);have loop:∀(f i:Nat) (h:AH),i+f=os.length->Hs G h (Cn t (lA (os.take i)++List.replicate (os.length - i) C2)::aM q 0 [pt t 0 0,I C.aS,Cx b]::K5 b (fun _=>none)::L)->Dd 47 7 [] Q [(pt q 0 0),ov,(I os.length),(I i)] h:=by
  intro f;induction f with
  |zero=>
   intro i h F a;refine bW (aI (aaa (J _ _ ?_)));have u:i=os.length:=by omega
   subst u;rw[List.take_length,Nat.sub_self,List.replicate_zero,List.append_nil] at a;have a:Hs G h (aM q 0 [pt t 0 0,I C.aS,Cx b]::Cn t (lA os)::K5 b (fun _=>none)::L):=a.to;exact P9 (m:=⟨lA os,fun _=>none⟩) a
  |succ f N=>
   intro i h F a;obtain⟨x,v,P⟩:=rG (l:=os) (i:=i) (by omega);have w:=B x (List.mem_of_getElem? v);have a:=A.iG k a;refine bW (aI (aad (bW (fZ a (x:=[I x]) (by simp[A.nA,v]) rfl (bI (aB (am q a rfl (bG (c:=(⟨x,false⟩:Cj).enc) rfl (Qj (x:=⟨x,false⟩) a.tail fun h a=>?_)))))))));have z:(lA (os.take i)++List.replicate (os.length - i) C2).length=os.length:=by simp[lA];omega
   have g:(0<=(i:Int)/\(i:Int)<(lA (os.take i)++List.replicate (os.length - i) C2).length)/\(0<=(⟨x,false⟩:Cj).owner/\(⟨x,false⟩:Cj).owner<=4):=⟨by omega,w⟩;rw[tu g] at a;rw[tu g];rw[Int.toNat_natCast,Rc v] at a;exact bC (aaa (bW (aac (N (i+1) h (by omega) a))))
 have e:(os.length:Int).toNat=os.length:=Int.toNat_natCast _;refine loop os.length 0 h (by omega) ?_;rw[e] at a;have D:List.replicate os.length C2=lA (os.take 0)++List.replicate (os.length - 0) C2:=rfl;rw[D] at a;exact a.to
end
end Go.Proofs.YtcjlkjeeifemhaaGreatDoor
namespace Go.Proofs.YtcjlkjeeifemhaaGreatDoor.C
open Go Go.Ab Go.Hm Go.Ct
section
set_option maxRecDepth 100000
variable {G:Bg} {h:AH} {L L':List HP}
end
section
set_option maxRecDepth 100000
variable {G:Bg} {h:AH} {L L' M:List HP}
def Bj (b o:Nat) (l:List Th):HP:=B9 fun x:Option Addr×Nat=>sp [aM b o [.slice x.1 l.length x.2],cB 5 297 x.1 x.2 (l.length,Uf l)]
theorem R5 (b o:Nat) (l:List Th) {a:Option Addr} {c n:Nat} {cs:List Value} {f g:List HP} (q:Hs G h L) [m:Has (aM b o) L [.slice a n c] f] [m2:Has (cB 5 297 a c) f (n,cs) g] (k:n=l.length) (e:cs=Uf l):Hs G h (Bj b o l::g):=by
 subst k;subst e;exact Hs.B8 (A:=fun x:Option Addr×Nat=>sp [aM b o [.slice x.1 l.length x.2],cB 5 297 x.1 x.2 (l.length,Uf l)]) (a,c) (Hs.pack (A:=[_,_]) (q.perm (m.perm.trans (m2.perm.cons _))))
structure rq where
 b:Nat
 o:Nat
 cap:Nat
def Tf (ways n b o cap:Nat):List Value:=[I ways,.slice (some ⟨b,o,none⟩) n cap]
def Wc (G:Bg) (t ways n:Nat) (S:Nat->List Th):HP:=B9 fun x:rq=>
 sp [aM t 0 (Tf ways n x.b x.o x.cap),hole G 1 294 (some ⟨x.b,x.o,none⟩) x.cap n x.b x.o,iT n fun i=>Bj x.b (x.o+i*1) (S i)]
theorem Qn {t ways n:Nat} {S:Nat->List Th} {b o cap:Nat} (a:Hs G h (aM t 0 (Tf ways n b o cap)::hole G 1 294 (some ⟨b,o,none⟩) cap n b o::iT n (fun i=>Bj b (o+i*1) (S i))::L)):Hs G h (Wc G t ways n S::L):=
 Hs.B8 (A:=fun x:rq=>sp [aM t 0 (Tf ways n x.b x.o x.cap),hole G 1 294 (some ⟨x.b,x.o,none⟩) x.cap n x.b x.o,iT n fun i=>Bj x.b (x.o+i*1) (S i)]) ⟨b,o,cap⟩ (Hs.pack (A:=[_,_,_]) a)
end
section
set_option maxRecDepth 100000
variable {G:Bg} {h:AH} {L L' M:List HP}
end
section
set_option maxRecDepth 100000
variable {G:Bg} {h:AH} {L L' M:List HP}
end
section
set_option maxRecDepth 100000
variable {G:Bg} {h:AH} {L L' M:List HP}
end
section
set_option maxRecDepth 100000
variable {G:Bg} {h:AH} {L L' M:List HP}
theorem Wr {b o n:Nat} (f:Hs G h (iT n (fun i=>aM b (o+i*1) [.slice none 0 0])::L)):Hs G h (iT n (fun i=>Bj b (o+i*1) [])::L):=
 Hs.Lg (g:=fun i=>Bj b (o+i*1) []) n _ (fun i _ _ _ f=>(R5 b (o+i*1) [] (a:=none) (c:=0) (n:=0) (cs:=[]) (eU (W:=5) (e:=297) f).pS rfl rfl)) f
theorem Hk {s w:Int} (t:1<=s/\s<=8) (u:1<=w/\w<=4) {Q:Value->AH->Prop} (e:Hs G h L) (q:∀p g,Hs G g (Wc G p w.toNat s.toNat (fun _=>[])::L)->Q (.tuple ⟨[pt p 0 0,I 0]⟩) g):Cl Pr K 91 [I s,I w] h Q:=by
 refine cW (aI (aaa (fY (aaa (aI (aaa (fY (aaa (G4 (by omega) (by omega) (by omega) ?_)))))))));dsimp only;refine fS e ?_ rfl ?_ ?_;rw[eB,oJ (W:=1) (fun _=>rfl)];rw[eB];exact pK (fun _=>rfl) _;intro a h e;obtain⟨b,o,k,e⟩:=Hs.G1 (W:=1) rfl (by omega) e;cases k;have f:w=(w.toNat:Int):=by omega
 refine bG (c:=Tf w.toNat s.toNat b o s.toNat) (by unfold Tf;rw[<-f];rfl) (fK e ?_);intro p h e;refine q p h ?_;have e:=Wr (e.front (iT s.toNat fun i=>aM b (o+i*1) [.slice none 0 0]));exact Qn (b:=b) (o:=o) (cap:=s.toNat) e.to
end
section
def Yr (t:Nat) (C:aZ) (core:Int) (s:tO):List Value:=pt t 0 0::(C.enc++[I core,I s.al,.bool s.aw,.bool s.s6,I s.gl,I s.gc.st,I s.gc.w,I s.gc.d.1,I s.gc.d.2,.bool s.rh])
set_option maxRecDepth 100000
variable {G:Bg} {h:AH} {L L' M:List HP}
def Xw (G:Bg) (c:Nat) (C:aZ) (core:Int) (s:tO):HP:=B9 fun t:Nat=>sp [aM c 0 (Yr t C core s),Wc G t C.ways.toNat C.xW.toNat s.S]
theorem Rh (c t:Nat) (C:aZ) (core:Int) (s:tO) {cs:List Value} {S:Nat->List Th} {a e:List HP} (k:Hs G h L) [m:Has (aM c 0) L cs a] [m2:Has (Wc G t C.ways.toNat C.xW.toNat) a S e] (f:cs=Yr t C core s) (g:S=s.S):Hs G h (Xw G c C core s::e):=by
 subst f;subst g;exact Hs.B8 (A:=fun t:Nat=>sp [aM c 0 (Yr t C core s),Wc G t C.ways.toNat C.xW.toNat s.S]) t (Hs.pack (A:=[_,_]) (k.perm (m.perm.trans (m2.perm.cons _))))
variable {C:aZ} {core:Int} {c:Nat} {s:tO}
end
section
set_option maxRecDepth 100000
variable {G:Bg} {h:AH} {L L' M:List HP} {C:aZ} {core:Int} {c:Nat} {s:tO}
end
section
set_option maxRecDepth 100000
variable {G:Bg} {h:AH} {L L' M:List HP} {C:aZ} {core:Int} {c:Nat} {s:tO} {n:eC}
end
section
set_option maxRecDepth 100000
variable {G:Bg} {h:AH} {L L' M:List HP} {C:aZ} {core:Int} {c:Nat} {s:tO} {n:eC}
end
section
set_option maxRecDepth 100000
variable {G:Bg} {h:AH} {L L' M:List HP} {C:aZ} {core:Int} {c:Nat} {s:tO} {n:eC}
end
section
set_option maxRecDepth 100000
variable {G:Bg} {h:AH} {L L' M:List HP} {C:aZ} {core:Int} {c:Nat} {s:tO} {n:eC}
theorem Gm (hC:C.Ok) (e:0<=core/\core<C.aS) {Q:Value->AH->Prop} (u:Ob G 1 jM) (a:Hs G h L) (k:∀c f,Hs G f (Xw G c C core tO.new::L)->Q (.tuple ⟨[pt c 0 0,I 0]⟩) f):Cl Pr K 43 [.agg ⟨C.enc⟩,I core] h Q:=by
 refine cW (fK a ?_);intro p h a;refine an p a (l:=C.enc) rfl rfl (eK u a fun h a=>?_);have g:=hC;unfold aZ.Ok at g;rw[tu hC];refine bC (aaa (bW (aI (aaa (aB (am p a rfl (gJ (aaa (bW ?_)))))))));refine aB (am p a rfl (aB (am p a rfl (Hk (by omega) (by omega) a fun t h a=>aE rfl (aE rfl (bC (aaa ?_)))))));refine an p a (l:=C.enc) rfl rfl (bG (c:=Yr t C core tO.new) rfl (fK a ?_));intro q h a;have a:=Rh q t C core tO.new a rfl rfl;exact k q h a.to
end
section
set_option maxRecDepth 100000
variable {G:Bg} {h:AH} {L L' M:List HP} {C:aZ} {core:Int} {c:Nat} {s:tO} {n:eC}
end
end Go.Proofs.YtcjlkjeeifemhaaGreatDoor.C
namespace Go.Proofs.YtcjlkjeeifemhaaGreatDoor.N
open Go Go.Ab Go.Hm Go.Nt
section
set_option maxRecDepth 100000
variable {G:Bg} {h:AH} {L L':List HP}
end
end Go.Proofs.YtcjlkjeeifemhaaGreatDoor.N
end
namespace Go.Proofs.YtcjlkjeeifemhaaGreatDoor.N
open Go Go.Ab Go.Hm Go.Nt
section
set_option maxRecDepth 100000
attribute [local irreducible] aK Br vH sW vI tX iM tM gT Q2 qF uH sB mL mI eO rX vM Hb Oy K8 Kr N1 Hq Jd O5 Kq kK oK nZ gF copyV iP sL P0 Ha yK hQ Ku P1 Pn jL mP sA sN Cl yC Lu nO mZ fP eD aY aR
variable {G:Bg} {h:AH} {L L':List HP}
end
end Go.Proofs.YtcjlkjeeifemhaaGreatDoor.N
section
open Go Go.Ab
attribute [local irreducible] aK Br vH sW vI tX iM tM gT Q2 qF uH sB mL mI eO rX vM Hb Oy K8 Kr N1 Hq Jd O5 Kq kK oK nZ gF copyV iP sL P0 Ha yK hQ Ku P1 Pn jL mP sA sN Cl yC Lu nO mZ fP eD aY aR
namespace Go.Proofs.YtcjlkjeeifemhaaGreatDoor
open Go Go.Ab Go.Hm Go.At Go.Mc
section
instance:Fx Ia 2:=⟨fun _=>rfl,fun _=>rfl⟩
set_option maxRecDepth 100000
variable {G:Bg} {h:AH} {L L':List HP} {Q:Value->AH->Prop} {C:aZ}
def X9 (C:aZ) (s:da) (a:Option Addr) (c:Nat):List Value:=[.bool s.iw,I s.Qi,I s.at',.bool s.kz,I C.entries,I C.cH,.slice a s.known.length c]
def W9 (p:Nat) (C:aZ) (s:da):HP:=B9 fun x:Option Addr×Nat=>sp [aM p 0 (X9 C s x.1 x.2),ls Ia 2 307 x.1 x.2 s.known]
theorem Qt (p:Nat) (C:aZ) (s:da) {a:Option Addr} {c:Nat} {cs:List Value} {l:List (Int×Int)} {e f:List HP} (q:Hs G h L) [m:Has (aM p 0) L cs e] [m2:Has (ls Ia 2 307 a c) e l f] (g:cs=X9 C s a c) (k:l=s.known):Hs G h (W9 p C s::f):=by
 subst g;subst k;exact Hs.B8 (A:=fun x:Option Addr×Nat=>sp [aM p 0 (X9 C s x.1 x.2),ls Ia 2 307 x.1 x.2 s.known]) (a,c) (Hs.pack (A:=[_,_]) (q.perm (m.perm.trans (m2.perm.cons _))))
theorem Qv (hC:C.Ok) (g:Hs G h L) (q:∀p k,Hs G k (W9 p C xX::L)->Q (.tuple ⟨[pt p 0 0,I 0]⟩) k):Cl Pr K 44 [I C.entries,I C.cH] h Q:=by
 have f:=hC;unfold aZ.Ok at f;refine cW (aI (aaa (fY (aaa (aI (aaa (fY (aaa ?_))))))));refine bG (c:=X9 C xX none 0) rfl (fK g fun p h g=>q _ _ ?_);exact Qt p C xX (a:=none) (c:=0) ((vX (enc:=Ia) (W:=2) (e:=307) g)) rfl rfl
end
section
set_option maxRecDepth 100000
variable {G:Bg} {h:AH} {L L':List HP} {Q:Value->AH->Prop} {C:aZ}
end
section
set_option maxRecDepth 100000
variable {G:Bg} {h:AH} {L L':List HP} {Q:Value->AH->Prop} {C:aZ}
end
section
instance:Fx eC.enc 9:=⟨fun _=>rfl,fun _=>rfl⟩
set_option maxRecDepth 100000
variable {G:Bg} {h:AH} {L L':List HP} {Q:Value->AH->Prop} {C:aZ}
abbrev oy (a:Option Addr) (c:Nat) (l:List eC):HP:=ls eC.enc 9 211 a c l
def Rm (C:aZ) (p:Nat) (l:List eC):HP:=B9 fun x:Option Addr×Nat=>sp [aM p 0 [I C.depth,.slice x.1 l.length x.2],oy x.1 x.2 l]
theorem Qh {p:Nat} {l:List eC} {a:Option Addr} {c:Nat} (e:Hs G h (aM p 0 [I C.depth,.slice a l.length c]::oy a c l::L)):Hs G h (Rm C p l::L):=
 Hs.B8 (A:=fun x:Option Addr×Nat=>sp [aM p 0 [I C.depth,.slice x.1 l.length x.2],oy x.1 x.2 l]) (a,c) e.im
theorem R2 (hC:C.Ok) (a:Hs G h L) (g:∀p f,Hs G f (Rm C p []::L)->Q (.tuple ⟨[pt p 0 0,I 0]⟩) f):Cl Pr K 95 [I C.depth] h Q:=by
 have k:1<=C.depth/\C.depth<=16:=hC.2.2.2.2.1;refine cW (aI (aaa (fY (aaa (bG (c:=[I C.depth,.slice none 0 0]) rfl (fK a fun p h a=>g _ _ ?_))))));have a:=(vX (enc:=eC.enc) (W:=9) (e:=211) a).pS;exact Qh a
end
end Go.Proofs.YtcjlkjeeifemhaaGreatDoor
namespace Go.Proofs.YtcjlkjeeifemhaaGreatDoor
open Go Go.Ab Go.Hm Go.At Go.Mc Go.Nt
section
theorem Ty {_α:Type} {n j:Nat} {g:Nat->Value} {v:Value} (q:j<n):kR ((List.range n).map g) j [v]=(List.range n).map fun k=>if k=j then v else g k:=by
 rw[<-gX _ _ _ (by simp;omega)];apply List.ext_getElem?;intro i;unfold aQ;simp only[List.length_singleton];by_cases h:i<j;rw[List.append_assoc,List.getElem?_append_left (by simp;omega),List.getElem?_take_of_lt h,List.getElem?_map,List.getElem?_map];by_cases a:i<n;rw[List.getElem?_range a];simp;intro e;omega;omega;rw[List.append_assoc,List.getElem?_append_right (by simp;omega)];have t:min j n=j:=by omega
 simp only[List.length_take,List.length_map,List.length_range,t];by_cases f:i=j;subst f;rw[List.getElem?_append_left (by simp),Nat.sub_self,List.getElem?_map,List.getElem?_range q];simp;rw[List.getElem?_append_right (by rw[List.length_singleton];omega),List.getElem?_drop,List.length_singleton,show j+1+(i - j - 1)=i by omega,List.getElem?_map,List.getElem?_map];by_cases a:i<n;rw[List.getElem?_range a];simp[f];rw[List.getElem?_eq_none (by simp;omega)];rfl
set_option maxRecDepth 100000
variable {G:Bg} {h:AH} {L L' M:List HP} {Q:Value->AH->Prop} {C:aZ}
def Uh (C:aZ) (pl:Nat->Nat):List Value:=C.enc++(List.range 16).map fun k=>if k<4*C.aS.toNat then pt (pl k) 0 0 else .pointer none
abbrev Gj (C:aZ) (pl:Nat->Nat) (F:Z7) (k:Nat):HP:=Rm C (pl k) (F (k/4) (k % 4))
def To (C:aZ) (f:Nat) (F:Z7):HP:=B9 fun pl:Nat->Nat=>sp [aM f 0 (Uh C pl),iT (4*C.aS.toNat) (Gj C pl F)]
theorem Q8 {f:Nat} {F:Z7} {pl:Nat->Nat} (a:Hs G h (aM f 0 (Uh C pl)::iT (4*C.aS.toNat) (Gj C pl F)::L)):Hs G h (To C f F::L):=
 Hs.B8 (A:=fun pl:Nat->Nat=>sp [aM f 0 (Uh C pl),iT (4*C.aS.toNat) (Gj C pl F)]) pl a.im
end
section
set_option maxRecDepth 100000
variable {G:Bg} {h:AH} {L L' M:List HP} {Q:Value->AH->Prop} {C:aZ}
end
section
set_option maxRecDepth 100000
variable {G:Bg} {h:AH} {L L' M:List HP} {Q:Value->AH->Prop} {C:aZ}
def yE (C:aZ) (pl:Nat->Nat) (n:Nat):List Value:=C.enc++(List.range 16).map fun k=>if k<n then pt (pl k) 0 0 else .pointer none
theorem Vn {pl:Nat->Nat} {n p:Nat} (q:n<16):kR (yE C pl n) (7+n) [pt p 0 0]=yE C (eG pl n p) (n+1):=by
 unfold yE;have e:∀(A B:List Value) (j:Nat) (v:List Value),j+v.length<=B.length->kR (A++B) (A.length+j) v=A++kR B j v:=by
  intro A;induction A with
  |nil=>intro B j v g;simp
  |cons x A t=>intro B j v g;rw[List.cons_append,List.length_cons,show A.length+1+j=(A.length+j)+1 by omega];show x::kR (A++B) (A.length+j) v=_;rw[t B j v g];rfl
 rw[show 7+n=C.enc.length+n by simp[aZ.enc],e _ _ _ _ (by simp;omega),Ty (_α:=Nat) q];congr 1;refine List.map_congr_left fun k _=>?_;by_cases a:k=n;subst a;rw[tu rfl,aae,rT];rw[tt a];by_cases f:k<n;rw[tu f,aae,uR a];rw[tt f,aab]
theorem Kc {pl:Nat->Nat} {n:Nat}:(yE C pl n).length=23:=by unfold yE;simp[aZ.enc]
theorem Yh {n p:Nat} {pl:Nat->Nat} {F:Z7} (a:Hs G h (Rm C p (F (n/4) (n % 4))::iT n (Gj C pl F)::L)):Hs G h (iT (n+1) (Gj C (eG pl n p) F)::L):=by
 refine Hs.Xg ?_;have e:Gj C (eG pl n p) F n=Rm C p (F (n/4) (n % 4)):=by unfold Gj;rw[rT]
 rw[e];have a:=a.pS;have a:=wO (g:=Gj C (eG pl n p) F) (fun j f=>by unfold Gj;rw[uR (by omega)]) a;exact a.pS
theorem P8 (hC:C.Ok) (t:Ob G 1 jM) (a:Hs G h L) (z:∀f y,Hs G y (To C f (fun _ _=>[])::L)->Q (.tuple ⟨[pt f 0 0,I 0]⟩) y):Cl Pr K 48 [.agg ⟨C.enc⟩] h Q:=by
 have B:=hC.1;refine cW (fK a fun p h a=>an p a (l:=C.enc) rfl rfl (eK t a fun h a=>?_));rw[tu hC];refine bC (aaa (bW (an p a (l:=C.enc) rfl rfl (bG (c:=yE C (fun _=>0) 0) rfl (fK a fun f h a=>aB (am p a rfl ?_))))));have inner:∀(k w x:Nat) (pl:Nat->Nat) (h:AH),w+k=4->(x:Int)<C.aS->(∀(pl:Nat->Nat) (h:AH),Hs G h (aM f 0 (yE C pl (4*x+4))::aM p 0 C.enc::iT (4*x+4) (Gj C pl fun _ _=>[])::L)->Dd 48 6 [] Q [(pt p 0 0),(pt f 0 0),(I C.aS),(I x)] h)->
   Hs G h (aM f 0 (yE C pl (4*x+w))::aM p 0 C.enc::iT (4*x+w) (Gj C pl fun _ _=>[])::L)->Dd 48 4 [] Q [(pt p 0 0),(pt f 0 0),(I x),(I C.aS),(I x),(I w)] h:=by
  intro k
  induction k with
  |zero=>
   intro w x pl h A g u a
   have:w=4:=by omega
   subst this
   exact bW (aI (aaa (u pl h a)))
  |succ k v=>
   intro w x pl h A g u a
   refine bW (aI (aad (bW (aB (am p a rfl (R2 hC a fun q h a=>aE rfl (aE rfl (bC (aaa (bW (bI (aB (mO (by omega) (mO (by omega) ?_))))))))))))))
   refine dL (b:=f) (o:=0) a rfl (by rw[Kc];exact Nat.ble_eq_true_of_le (by simp;omega)) rfl (by rw[Kc];rfl) fun h a=>aac ?_
   rw[show 0+7+x*4+w*1=7+(4*x+w) by omega,Vn (by omega)] at a
   refine v (w+1) x (eG pl (4*x+w) q) h (by omega) g u ?_
   have a:=a.lT (Rm C q []) (iT (4*x+w) (Gj C pl fun _ _=>[]))
   have a:=Yh (F:=fun _ _=>[]) a
   exact(show Hs G h (aM f 0 (yE C (eG pl (4*x+w) q) (4*x+(w+1)))::aM p 0 C.enc::iT (4*x+(w+1)) (Gj C (eG pl (4*x+w) q) fun _ _=>[])::L) from a.to)
 have outer:∀(k x:Nat) (pl:Nat->Nat) (h:AH),x+k=C.aS.toNat->Hs G h (aM f 0 (yE C pl (4*x))::aM p 0 C.enc::iT (4*x) (Gj C pl fun _ _=>[])::L)->Dd 48 2 [] Q [(pt p 0 0),(pt f 0 0),(I C.aS),(I x)] h:=by
  intro k;induction k with
  |zero=>
   intro x pl h g a;refine bW (aI (aaa (z f h ?_)));have e:x=C.aS.toNat:=by omega
   subst e;have a:Hs G h (aM f 0 (Uh C pl)::aM p 0 C.enc::iT (4*C.aS.toNat) (Gj C pl fun _ _=>[])::L):=a;exact(Q8 (show Hs G h (aM f 0 (Uh C pl)::iT (4*C.aS.toNat) (Gj C pl fun _ _=>[])::L) from a.to))
  |succ k v=>
   intro x pl h g a;refine bW (aI (aad (bW ?_)));refine inner 4 0 x pl h (by omega) (by omega) (fun pl h a=>bW (aac (v (x+1) pl h (by omega) ?_))) a;exact(show Hs G h (aM f 0 (yE C pl (4*(x+1)))::aM p 0 C.enc::iT (4*(x+1)) (Gj C pl fun _ _=>[])::L) from by rw[show 4*(x+1)=4*x+4 by omega];exact a)
 have a:=Hs.Yz (f:=Gj C (fun _=>0) fun _ _=>[]) a;exact outer C.aS.toNat 0 (fun _=>0) h (by omega) (show Hs G h (aM f 0 (yE C (fun _=>0) 0)::aM p 0 C.enc::iT 0 (Gj C (fun _=>0) fun _ _=>[])::L) from a.to)
end
section
set_option maxRecDepth 100000
variable {G:Bg} {h:AH} {L L' M:List HP} {Q:Value->AH->Prop} {C:aZ}
end
end Go.Proofs.YtcjlkjeeifemhaaGreatDoor
namespace Go.Proofs.YtcjlkjeeifemhaaGreatDoor
open Go Go.Ab Go.Hm Go.At Go.Is Go.Mc
section
instance:Fx Ins.enc 4:=⟨fun _=>rfl,fun _=>rfl⟩
set_option maxRecDepth 100000
variable {G:Bg} {h:AH} {L L' M:List HP} {Q:Value->AH->Prop} {s:cA} {i p:Nat}
abbrev Wm (a:Option Addr) (c:Nat) (l:List Ins):HP:=ls Ins.enc 4 155 a c l
def Q6 (i:Nat) (s:cA) (a:Option Addr) (c:Nat):List Value:=s.core++[I i,.slice a s.prog.length c]
def L0 (i:Nat) (p:Nat) (s:cA):HP:=B9 fun x:Option Addr×Nat=>sp [aM p 0 (Q6 i s x.1 x.2),Wm x.1 x.2 s.prog]
theorem T2 (e:Hs G h (L0 i p s::L)):∃a c,Hs G h (aM p 0 (Q6 i s a c)::Wm a c s.prog::L):=by
 obtain⟨⟨a,c⟩,e⟩:=e.Wd;exact⟨a,c,e.ly⟩
theorem Dn (p i:Nat) (s:cA) {a:Option Addr} {c:Nat} {cs:List Value} {l:List Ins} {e f:List HP} (q:Hs G h L) [m:Has (aM p 0) L cs e] [m2:Has (Wm a c) e l f] (g:cs=Q6 i s a c) (k:l=s.prog):Hs G h (L0 i p s::f):=by
 subst g;subst k;exact Hs.B8 (A:=fun x:Option Addr×Nat=>sp [aM p 0 (Q6 i s x.1 x.2),Wm x.1 x.2 s.prog]) (a,c) (Hs.pack (A:=[_,_]) (q.perm (m.perm.trans (m2.perm.cons _))))
theorem W0 {a:Option Addr} {c:Nat} {x:Int} {cs:List Value} (v:0<=x) (f:cs[8]?=some (.slice a s.prog.length c)) (k:Hs G h L) [m:Has (aM p 0) L cs L'] [m2:Has (Wm a c) L' s.prog M] (g:∀u,Hs G u L->Q (.bool (Am s.prog x)) u):Cl Pr K 137 [pt p 0 0,I x] h Q:=by
 have t:Hs G h (aM p 0 cs::Wm a c s.prog::M):=k.perm (m.perm.trans (m2.perm.cons _));unfold Am at g;refine cW (aI (aaa (bI (aB (am p k f (cM (gJ (bK (fun q=>?_) (fun q=>?_)))))))));rw[tu q] at g;exact g _ k;rw[tt q] at g;refine bI (aB (am p k f (j4 (l:=s.prog) (a:=a) (c:=c) (enc:=Ins.enc) (e:=155) (x:=Xi s.prog x) t v ?_ rfl (dH ?_))));unfold Xi;rw[List.getD_eq_getElem?_getD,List.getElem?_eq_getElem (by omega)];rfl;exact g _ k
theorem Fp {x:Int} (k:0<=x) (e:Hs G h L) [m:Has (L0 i p) L s L'] (g:∀f,Hs G f (L0 i p (s.nY x)::L')->Q (.tuple ⟨[]⟩) f):Cl Pr K 90 [pt p 0 0,I x] h Q:=by
 obtain⟨a,c,e⟩:=T2 (m.of e);refine cW (bI (aB (aB (ay (b:=p) (o:=0) e fun h e=>?_))));refine W0 (s:=s) (a:=a) (c:=c) k rfl e fun h e=>bI (aB (aB (ay (b:=p) (o:=0) e fun h e=>g _ ?_)));exact Dn p i (s.nY x) (a:=a) (c:=c) e rfl rfl
end
section
set_option maxRecDepth 100000
variable {G:Bg} {h:AH} {L L' M:List HP} {Q:Value->AH->Prop} {s:cA} {i p:Nat}
end
section
set_option maxRecDepth 100000
variable {G:Bg} {h:AH} {L L' M:List HP} {Q:Value->AH->Prop} {s:cA} {i p:Nat}
end
section
set_option maxRecDepth 100000
variable {G:Bg} {h:AH} {L L' M:List HP} {Q:Value->AH->Prop} {s:cA} {i p:Nat}
theorem N9 {α:Type} {enc:α->List Value} {l:List α}:(l.map enc).flatten=eL enc l:=by simp[eL,List.flatMap]
theorem G6 {v:Value} {e:TypeId} {l:List Ins} (hb:l.length<=1000) (f:Hs G h (lX G 4 e v (l.map Ins.enc)::L)) (k:∀a c g,Hs G g (Wm a c l::lX G 4 e v (l.map Ins.enc)::L)->Q (.slice a l.length c) g):Cl Pr K 75 [v] h Q:=by
 refine cW (Bn (bytes:=32) (e:=155) f (by decide) (List.length_map ..) (by rw[N9];exact M0) (by omega) fun a c h f=>k a c h ?_);rw[N9] at f;exact f
theorem R1 {v:Value} {w:Int} {e:TypeId} {pr:List Ins} (x:i<4) (y:0<=w/\w<=3) (t:Ob G 0 eP) (g:(cQ pr).2=0) (f:Hs G h (lX G 4 e v (pr.map Ins.enc)::L))
  (u:∀p k,Hs G k (L0 i p (kY pr w)::lX G 4 e v (pr.map Ins.enc)::L)->Q (.tuple ⟨[pt p 0 0,I 0]⟩) k):Cl Pr K 42 [I i,I w,v] h Q:=by
 have q:pr.length<=32:=by
  unfold cQ at g;split at g;cases g;omega
 refine cW (aI (aaa (gJ (aaa (aI (aaa (fY (aaa (bW (kJ t f fun h f=>aE rfl (aE rfl (bC (aaa (bW ?_))))))))))))))
 refine G6 (l:=pr) (by omega) f fun a c h f=>?_
 refine bG (c:=Q6 i ⟨fun _=>0,0,0,false,pr⟩ a c) rfl (fK f fun p h f=>bI (aB (aB (ay (b:=p) (o:=0) f fun h f=>?_))))
 have f:Hs G h (aM p 0 (Q6 i ⟨fun _=>0,0,w,false,pr⟩ a c)::Wm a c pr::lX G 4 e v (pr.map Ins.enc)::L):=f
 have f:=Dn p i ⟨fun _=>0,0,w,false,pr⟩ (a:=a) (c:=c) f rfl rfl
 exact Fp (i:=i) (s:=⟨fun _=>0,0,w,false,pr⟩) (by omega) f fun h f=>u _ _ f
end
end Go.Proofs.YtcjlkjeeifemhaaGreatDoor
end
