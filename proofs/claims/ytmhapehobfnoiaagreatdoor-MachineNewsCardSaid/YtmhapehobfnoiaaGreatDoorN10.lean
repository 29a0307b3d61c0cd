/- A part of the proof. -/
import Derived.Test.YtmhapehobfnoiaaGreatDoorN9
import Derived.Test.YtmhapehobfnoiaaGreatDoorN8
import Derived.KernelRfl
import Derived.Test.YtmhapehobfnoiaaGreatDoorN7
import Derived.Lib.ItoaNum
import Derived.Lib.Bytes
namespace Go.Proofs.YtmhapehobfnoiaaGreatDoor
open Go Go.Ab
section
set_option maxRecDepth 100000
noncomputable def K:FuncId->List Value->Option fC:=O6 (O6 K0 10 (.bool true)) 25 (.bool true)
abbrev n_:FT:=⟨[],[],false,0,[]⟩
def tb0:List FT:=[n_,n_,n_,⟨[(2,[0]),(14,[1]),(252,[1,3,4,5]),(254,[1,3,5]),(16336,[1,3,5,7,8]),(65352,[1,3,5,7,8]),(1022,[1,3,7]),(261415,[1,3,5,7,8,9]),(262096,[1,3,7,14,15,16,17]),(524196,[1,3,7,14,15,16,17])],[],false,35330,[(25,[(5,4),(20,26),(21,26)])]⟩,n_,n_,n_,n_,n_,⟨[(2,[0]),(208,[1,3]),(840,[1,3]),(211,[1,3])],[],false,2,[]⟩,⟨[(2,[]),(124,[2]),(2000,[2,4]),(8008,[2,4]),(126,[2]),(512592,[2,4,5]),(1025188,[2,4,5]),(16019,[2,4])],[],false,66,[]⟩,⟨[(2,[0]),(14,[1]),(488,[1,6,39,40]),(7832,[1,6,39,40]),(62,[1,6]),(62670,[1,6,7,8,39,40]),(508,[1,6]),(250686,[1,6,8,10,39,40]),(4072,[1,6,128,129,130]),(1002750,[1,6,8,10,11,39,40]),(65176,[1,6,128,129,130]),(1020,[1,6]),(16295,[1,6,128,129,130]),(2044,[1,6])],[],false,1701411834604692317316873038258352685058,[]⟩,⟨[(2,[0,1,2,3,4]),(28,[1,2,3,4,5]),(60,[1,2,3,4,5]),(488,[1,2,3,4,5,56,57,58]),(7832,[1,2,3,4,5,56,57,58]),(124,[1,2,3,4,5]),(1959,[1,2,3,4,5,56,57,58]),(126,[1,2,3,4,5]),(1020,[1,2,3,4,5,17]),(8168,[1,2,3,5,17,87,88,89]),(130712,[1,2,3,5,17,87,88,89]),(1022,[1,2,3,5,17]),(32679,[1,2,3,5,17,87,88,89]),(32744,[1,2,22,115,116]),(523928,[1,2,22,115,116])],[],false,83076750510269766970138583269113888,[(25,[(0,10),(1,10),(2,10),(6,5)])]⟩,⟨[(2,[0,1]),(28,[0,1,4])],[],false,16,[]⟩,⟨[(2,[0,1]),(28,[0,1,4])],[],false,16,[]⟩,⟨[(2,[0,1,15]),(28,[2,3,4,15]),(116,[2,3,4,15])],[(58,[2,3,4,15])],true,84,[]⟩]
def tb1:List FT:=[⟨[(2,[0,36,37,60,61,115]),(60,[0,2,3,36,37,60,61,115]),(488,[0,2,3,21,22,36,37,60,61,115]),(7832,[0,2,3,21,22,36,37,60,61,115]),(124,[0,2,3,115]),(250664,[3,4,36,37]),(250680,[3,4,60,61]),(1000,[0,2,3,76,77,115]),(16024,[0,2,3,76,77,115]),(126,[0,2,3,115]),(2036,[3,115])],[(62666,[3,4,36,37]),(62670,[3,4,60,61]),(1018,[3,115])],true,151115727451828651041884,[]⟩,⟨[(2,[0]),(28,[0]),(232,[0,25,26,27]),(3736,[0,25,26,27]),(60,[0]),(935,[0,25,26,27]),(488,[0,73,74]),(7832,[0,73,74]),(1959,[0,73,74])],[],false,18889465931478748626944,[]⟩,⟨[(2,[0])],[],false,0,[]⟩,⟨[(2,[0,11]),(30,[2,3,11]),(500,[4,11])],[(250,[4,11])],true,48,[]⟩,⟨[(2,[0,1])],[],false,12,[]⟩,⟨[(2,[0]),(464,[0,3,4]),(932,[0,3,4])],[],false,0,[]⟩,n_,n_,n_,n_,n_,n_,n_,n_,n_,n_]
def tb2:List FT:=[n_,n_,n_,n_,⟨[(2,[0,1,2]),(28,[0,1,2]),(30,[0,1,2])],[],false,0,[]⟩,⟨[(2,[0,1]),(28,[1,2]),(30,[1,2])],[],false,4,[]⟩,⟨[(2,[0,1])],[],false,0,[]⟩,⟨[(2,[0]),(14,[1]),(62,[1,5]),(2024,[7,33,34]),(32408,[7,33,34])],[],false,17179869186,[(7,[(0,8),(1,8)])]⟩,⟨[(2,[0,1,2]),(30,[2,7])],[],false,0,[]⟩,⟨[(2,[0,1]),(28,[0,1]),(232,[0,1,30,31,32]),(3736,[0,1,30,31,32]),(30,[0,1]),(935,[0,1,30,31,32]),(126,[0,1,8]),(4072,[10,57,58,59]),(65176,[10,57,58,59]),(16295,[10,57,58,59])],[],false,720575945747988480,[]⟩,⟨[(2,[0]),(14,[1]),(488,[1,5,19,20]),(7832,[1,5,19,20]),(125336,[1,5,6,19,20,23]),(2005400,[1,5,6,19,20,23]),(1959,[1,5,19,20]),(8021607,[1,5,6,7,8,19,20,23])],[],false,9437186,[]⟩,⟨[(2,[0]),(1768,[3,4,22,23]),(28312,[3,4,22,23]),(226508,[]),(7079,[3,4,22,23])],[],false,8388618,[]⟩,⟨[(2,[0])],[],false,0,[]⟩,⟨[(2,[0]),(28,[0]),(232,[0,10,11,12]),(3736,[0,10,11,12]),(935,[0,10,11,12])],[],false,5152,[]⟩,⟨[(2,[0,1,2]),(104,[0,1,9,10,11]),(1688,[0,1,9,10,11]),(423,[0,1,9,10,11])],[],false,2560,[]⟩,⟨[(2,[0]),(14,[1]),(488,[1,5,20,21]),(7832,[1,5,20,21])],[],false,2097154,[]⟩]
def tb3:List FT:=[⟨[(2,[0])],[],false,0,[]⟩,⟨[(2,[0])],[],false,0,[]⟩,⟨[(2,[0,1])],[],false,0,[]⟩,⟨[(2,[0])],[],false,0,[]⟩,⟨[(2,[0,1])],[],false,16,[]⟩,⟨[(2,[0]),(58,[0,3]),(30,[3])],[],false,8,[]⟩,⟨[(2,[0]),(58,[0,3])],[],false,8,[]⟩,⟨[(2,[0,1]),(28,[0,1,4])],[],false,16,[]⟩,⟨[(2,[0])],[],false,0,[]⟩,⟨[(2,[0])],[],false,8,[]⟩,⟨[(2,[0])],[],false,0,[]⟩,⟨[(2,[0,7]),(116,[3,7]),(0,[3])],[(58,[3,7]),(938,[3])],true,8,[]⟩,⟨[(2,[0])],[],false,0,[]⟩,⟨[(2,[0])],[],false,0,[]⟩,⟨[(2,[0])],[],false,2,[]⟩,⟨[(2,[0,1])],[],false,0,[]⟩]
def tb4:List FT:=[n_,⟨[(2,[0,1]),(28,[0,1]),(464,[0,1,5]),(1864,[0,1,5]),(467,[0,1,5])],[],false,0,[]⟩,⟨[(2,[0,1]),(28,[0,1]),(464,[0,1,5]),(1864,[0,1,5]),(467,[0,1,5])],[],false,0,[]⟩,⟨[(2,[0,1]),(28,[0,1]),(464,[0,1,5]),(1864,[0,1,5]),(467,[0,1,5])],[],false,0,[]⟩,⟨[(2,[0,1]),(28,[0,1]),(464,[0,1,5]),(1864,[0,1,5]),(467,[0,1,5])],[],false,0,[]⟩,⟨[(2,[0,1]),(28,[0,1]),(464,[0,1,5]),(1864,[0,1,5]),(467,[0,1,5])],[],false,0,[]⟩,n_,n_,n_,n_,n_,n_,n_,n_,n_,n_]
def tb5:List FT:=[n_,n_,n_,n_,n_,n_,n_,n_,n_,⟨[(2,[0,1,2])],[],false,0,[]⟩,n_,n_,⟨[(2,[0,1])],[],false,0,[]⟩,⟨[(2,[0,1])],[],false,0,[]⟩,⟨[(2,[0,1]),(14,[0,1]),(62,[0,6,7])],[],false,0,[]⟩,⟨[(2,[0])],[],false,0,[]⟩]
def tb6:List FT:=[⟨[(2,[0,1,2]),(28,[0,1,5]),(30,[0,1,5])],[],false,32,[]⟩,⟨[(2,[0])],[],false,0,[]⟩,⟨[(2,[0,1,14,15]),(26,[2,3,4,14,15]),(1768,[3,5,14,15])],[(442,[3,5,14,15])],true,36,[]⟩,⟨[(2,[0])],[],false,0,[]⟩,⟨[(2,[0])],[],false,0,[]⟩,⟨[(2,[0])],[],false,0,[]⟩,⟨[(2,[0,1])],[],false,0,[]⟩,⟨[(2,[0]),(232,[0,3,9,10,11]),(3736,[0,3,9,10,11]),(30,[0,3]),(29902,[]),(935,[0,3,9,10,11]),(1000,[6,25,26,27]),(16024,[6,25,26,27])],[],false,167774720,[]⟩,⟨[(2,[0,1])],[],false,0,[]⟩,⟨[(2,[0,1])],[],false,0,[]⟩,⟨[(2,[0,1]),(488,[6]),(124,[0,1,6]),(252,[0,1]),(508,[0,1])],[],false,0,[]⟩,⟨[(2,[0,1]),(24,[0,5,6,7]),(408,[0,5,6,7]),(103,[0,5,6,7])],[],false,176,[]⟩,⟨[(2,[0])],[],false,0,[]⟩,⟨[(2,[0,1]),(24,[0,5,6,7]),(408,[0,5,6,7]),(103,[0,5,6,7])],[],false,176,[]⟩,⟨[(2,[0,1,7]),(52,[2,7])],[(26,[2,7])],true,36,[]⟩,⟨[(2,[0]),(116,[0,3]),(936,[0,3,12,13]),(15000,[0,3,12,13]),(240024,[0,3,4,12,13,16]),(3840408,[0,3,4,12,13,16]),(3751,[0,3,12,13])],[],false,73728,[]⟩]
def tb7:List FT:=[⟨[(2,[0,1,6,8]),(108,[2,6,8]),(1748,[2,8])],[(54,[2,6,8]),(874,[2,8])],true,16,[]⟩,n_,⟨[(2,[0]),(14,[0]),(488,[0,3,17,18]),(7832,[0,3,17,18]),(62670,[0,3,4,5,6,17,18]),(1959,[0,3,17,18])],[],false,262144,[]⟩,⟨[(2,[0,1])],[],false,0,[]⟩,n_,n_,n_,n_,n_,n_,n_,⟨[(2,[0])],[],false,0,[]⟩,n_,n_,n_,n_]
def tb8:List FT:=[n_,n_,n_,n_,n_,n_,n_,n_,n_,n_,n_,n_,n_,⟨[(2,[0,1,2])],[],false,0,[]⟩,⟨[(2,[0])],[],false,0,[]⟩,n_]
def tb9:List FT:=[n_,⟨[(2,[0,1])],[],false,0,[]⟩,⟨[(2,[0,1])],[],false,0,[]⟩,⟨[(2,[0,1]),(14,[0,1])],[],false,0,[]⟩,⟨[(2,[0])],[],false,0,[]⟩,⟨[(2,[0])],[],false,0,[]⟩,⟨[(2,[0])],[],false,0,[]⟩,⟨[(2,[0,1,2]),(214,[1,2,7]),(862,[1,2,7]),(3454,[1,2,7]),(13822,[1,2,7])],[],false,128,[]⟩,⟨[(2,[0,1]),(24,[0,5,6,7]),(408,[0,5,6,7]),(103,[0,5,6,7])],[],false,160,[]⟩,⟨[(2,[0])],[],false,0,[]⟩,⟨[(2,[0])],[],false,0,[]⟩,⟨[(2,[1])],[],false,0,[]⟩,⟨[(2,[0,1]),(26,[]),(28,[0,1]),(118,[0,1])],[],false,0,[]⟩,⟨[(2,[0,1,2,3,4]),(112,[0,1,2,3,4,10,11]),(908,[0,1,2,3,4,10,11,12]),(1820,[0,1,2,3,4,10,11,12]),(7284,[0,1,2,3,4,10,11,12]),(1822,[0,1,2,3,4,10,11,12]),(29172,[0,1,2,3,4,10,11,12,13]),(14588,[0,1,2,3,4,10,11,12,13,14]),(58356,[0,1,2,3,4,10,11,12,13]),(29180,[0,1,2,3,4,10,11,12,13]),(116724,[0,1,2,3,4,10,11,13]),(29182,[0,1,2,3,4,12,13]),(1867772,[0,1,2,3,4,11,16,18,20]),(1867774,[0,1,2,3,4,11,16,19,20])],[],false,0,[]⟩,⟨[(2,[0])],[],false,0,[]⟩,⟨[(2,[0])],[],false,0,[]⟩]
def aBp:List FT:=[n_,⟨[(2,[0,1]),(24,[0,5,6,7]),(408,[0,5,6,7]),(103,[0,5,6,7])],[],false,176,[]⟩,⟨[(2,[0,1]),(24,[0,5,6,7]),(408,[0,5,6,7]),(103,[0,5,6,7])],[],false,176,[]⟩,n_,n_,n_,n_,n_,n_,n_,n_,n_,n_,n_,n_,n_]
def aBy:List FT:=[n_,n_,n_,n_,n_,n_,n_,n_,n_,⟨[(2,[0])],[],false,0,[]⟩,n_,⟨[(2,[0,1])],[],false,4,[]⟩,⟨[(2,[0,1]),(24,[0,1,11,12]),(408,[0,1,11,12]),(103,[0,1,11,12])],[],false,4096,[]⟩,⟨[(2,[0,1,7]),(52,[2,7])],[(26,[2,7])],true,4,[]⟩,⟨[(2,[0,1,2,3]),(112,[0,1,2,3,8,9]),(908,[0,1,2,3,8,9,10]),(1820,[0,1,2,3,8,9,10]),(7284,[0,1,2,3,8,9,10]),(1822,[0,1,2,3,8,9,10]),(29172,[0,1,2,3,8,9,10,11]),(14588,[0,1,2,3,8,9,10,11,12]),(58356,[0,1,2,3,8,9,10,11]),(29180,[0,1,2,3,8,9,10,11]),(116724,[0,1,2,3,8,9,11]),(29182,[0,1,2,3,10,11]),(1867772,[0,1,2,3,9,14,16,18]),(1867774,[0,1,2,3,9,14,17,18])],[],false,0,[]⟩,⟨[(2,[0,1,2,3]),(48,[0,1,2,3,8]),(200,[0,1,2,3,8]),(3216,[0,1,2,3,8,9]),(6436,[0,1,2,3,8,9]),(51,[0,1,2,3,8])],[],false,0,[(6,[(2,17),(3,17),(4,17)])]⟩]
def aBe:List FT:=[⟨[(2,[0,1,2,3]),(976,[0,3,8,9,10,11]),(1956,[0,3,8,9,10,11]),(62,[0,3,8,9,10]),(1008,[0,3,8,9,12]),(4040,[0,3,8,9,12])],[],false,0,[(10,[(2,19),(3,19),(4,19),(5,19)])]⟩,⟨[(2,[0,1,2]),(28,[0,1,8]),(1904,[0,1,8,9,10,11]),(7624,[0,1,8,9,10,11]),(61002,[0,1,8,9,10,11,12]),(15251,[0,1,8,9,10,11,12])],[],false,512,[(10,[(2,19),(3,19),(4,19),(5,19)])]⟩,⟨[(2,[0,1,2,3]),(4072,[0,3,10,11,12,13,14]),(510,[11,13]),(16292,[0,3,11,12,13,14]),(2037,[0,3,11,12,13,14]),(8182,[13,55])],[],false,36028797018966016,[]⟩,⟨[(2,[0,1,2]),(112,[0,8,9]),(228,[0,8,9])],[],false,0,[(3,[(2,15),(3,15)])]⟩,⟨[(2,[0,1,2,3]),(464,[0,1,2,3,9,10]),(29824,[0,1,2,3,9,10]),(29826,[0,1,2,3,9,10]),(7460,[0,1,2,3,9,10]),(14924,[0,1,2,3,9,10]),(14926,[0,1,2,3,9,10]),(238836,[0,1,2,3,9,10]),(59710,[0,1,2,3,9,10]),(3821392,[0,1,2,3,9,10,11]),(238844,[0,1,2,3,9,10]),(467,[0,1,2,3,9,10]),(30571152,[0,1,2,3,9,10,11]),(3821520,[0,1,2,3,9,10,12]),(15285577,[0,1,2,3,9,10,11]),(30572176,[0,1,2,3,9,10,12]),(15286089,[0,1,2,3,9,10,12])],[],false,0,[(11,[(2,17),(3,17),(4,17)]),(17,[(2,17),(3,17),(4,17)]),(23,[(2,17),(3,17),(4,17)])]⟩,⟨[(2,[0,1,2,3,4]),(7680,[0,1,4,11,12]),(7682,[0,1,4,11,12]),(15392,[0,1,4,11,12]),(15394,[0,1,4,11,12]),(3852,[0,1,4,11,12]),(3854,[0,1,4,11,12])],[],false,0,[(1,[(2,15),(3,15)]),(8,[(2,15),(3,15)])]⟩,⟨[(2,[0,1,2,3,4]),(480,[0,1,4,12,13]),(482,[0,1,4,12,13]),(992,[0,1,4,12,13]),(994,[0,1,4,12,13]),(252,[0,1,4,12,13]),(1012,[0,1,13]),(254,[0,1,4,12,13]),(523776,[0,1,4,12,13]),(523778,[0,1,4,12,13]),(1047584,[0,1,4,12,13]),(1047586,[0,1,4,12,13]),(261900,[0,1,4,12,13]),(4094,[0,1,13]),(261902,[0,1,4,12,13])],[],false,0,[(1,[(2,15),(3,15)]),(8,[(2,15),(3,15)]),(10,[(2,15),(3,15)]),(18,[(2,15),(3,15)]),(21,[(2,15),(3,15)])]⟩,⟨[(2,[0]),(52,[0]),(28,[0,2]),(116,[0,2])],[],false,0,[]⟩,⟨[(2,[0]),(52,[0]),(28,[0,2]),(116,[0,2]),(60,[0,2]),(244,[0,2])],[],false,0,[]⟩,⟨[(2,[0,1]),(24,[0,5,6,7]),(408,[0,5,6,7]),(103,[0,5,6,7])],[],false,160,[]⟩,n_,n_,n_,n_,n_,n_]
def aBj:List FT:=[n_,n_,n_,n_,n_,n_,n_,n_,n_,n_,n_,n_,n_,n_,n_,n_]
def aBx:List FT:=[n_,n_,n_,n_,n_,n_,n_,n_,n_,n_,⟨[(2,[])],[],false,192,[]⟩,n_,n_,n_,n_,n_]
def aBz:List FT:=[n_,n_,n_,n_,n_,n_,n_,n_,⟨[(2,[0,1]),(24,[0,5,6,7]),(408,[0,5,6,7]),(103,[0,5,6,7])],[],false,176,[]⟩,⟨[(2,[0,1,2]),(48,[0,1,2,6]),(200,[0,1,2,6]),(3216,[0,1,2,6,7]),(6436,[0,1,2,6,7]),(51,[0,1,2,6])],[],false,0,[(6,[(2,17),(3,17),(4,17)])]⟩,⟨[(2,[0,1,2]),(976,[0,6,7,8,9]),(1956,[0,6,7,8,9]),(62,[0,6,7,8]),(1008,[0,6,7,10]),(4040,[0,6,7,10])],[],false,0,[(10,[(2,19),(3,19),(4,19),(5,19)])]⟩,⟨[(2,[0,1,2]),(28,[0,1,6]),(1904,[0,1,6,7,8,9]),(7624,[0,1,6,7,8,9]),(61002,[0,1,6,7,8,9,10]),(15251,[0,1,6,7,8,9,10])],[],false,128,[(10,[(2,19),(3,19),(4,19),(5,19)])]⟩,⟨[(2,[0,1,2]),(4072,[0,8,9,10,11,12]),(510,[9,11]),(16292,[0,9,10,11,12]),(2037,[0,9,10,11,12]),(8182,[11,49])],[],false,562949953421824,[]⟩,⟨[(2,[0,1,2]),(112,[0,6,7]),(228,[0,6,7])],[],false,0,[(3,[(2,15),(3,15)])]⟩,⟨[(2,[0,1,2]),(464,[0,1,2,7,8]),(29824,[0,1,2,7,8]),(29826,[0,1,2,7,8]),(7460,[0,1,2,7,8]),(14924,[0,1,2,7,8]),(14926,[0,1,2,7,8]),(238836,[0,1,2,7,8]),(59710,[0,1,2,7,8]),(3821392,[0,1,2,7,8,9]),(238844,[0,1,2,7,8]),(467,[0,1,2,7,8]),(30571152,[0,1,2,7,8,9]),(3821520,[0,1,2,7,8,10]),(15285577,[0,1,2,7,8,9]),(30572176,[0,1,2,7,8,10]),(15286089,[0,1,2,7,8,10])],[],false,0,[(11,[(2,17),(3,17),(4,17)]),(17,[(2,17),(3,17),(4,17)]),(23,[(2,17),(3,17),(4,17)])]⟩,⟨[(2,[0,1])],[],false,0,[]⟩]
def aBu:List FT:=[⟨[(2,[0,1,2,3]),(7680,[0,1,9,10]),(7682,[0,1,9,10]),(15392,[0,1,9,10]),(15394,[0,1,9,10]),(3852,[0,1,9,10]),(3854,[0,1,9,10])],[],false,0,[(1,[(2,15),(3,15)]),(8,[(2,15),(3,15)])]⟩,⟨[(2,[0,1,2,3]),(480,[0,1,10,11]),(482,[0,1,10,11]),(992,[0,1,10,11]),(994,[0,1,10,11]),(252,[0,1,10,11]),(1012,[0,1,11]),(254,[0,1,10,11]),(523776,[0,1,10,11]),(523778,[0,1,10,11]),(1047584,[0,1,10,11]),(1047586,[0,1,10,11]),(261900,[0,1,10,11]),(4094,[0,1,11]),(261902,[0,1,10,11])],[],false,0,[(1,[(2,15),(3,15)]),(8,[(2,15),(3,15)]),(10,[(2,15),(3,15)]),(18,[(2,15),(3,15)]),(21,[(2,15),(3,15)])]⟩,⟨[(2,[0,1,2,3,4]),(48,[0,2,3,4,10]),(396,[0,2,3,4,10,11]),(794,[0,2,3,4,10,11]),(796,[0,2,3,4,10,11]),(798,[0,2,3,4,10,11])],[],false,0,[(6,[(4,23),(5,23),(6,23),(7,23)])]⟩,⟨[(2,[0])],[],false,0,[]⟩,⟨[(2,[0])],[],false,2101256,[]⟩,⟨[(2,[0,1,2,3])],[],false,0,[]⟩,⟨[(2,[0,1,2,3,4,5])],[],false,0,[]⟩,n_,n_,n_,n_,n_,n_,n_,n_,n_]
def aBh:List FT:=[n_,n_,n_,n_,n_,⟨[(2,[0,1])],[],false,0,[]⟩,n_,n_,n_,n_,n_,n_,n_,n_,n_,n_]
def aBw:List FT:=[n_,n_,n_,n_,n_,n_,n_,n_,n_,n_,n_,n_,⟨[(2,[0,1,2,3]),(48,[0,2,3,8]),(396,[0,2,3,8,9]),(794,[0,2,3,8,9]),(796,[0,2,3,8,9]),(798,[0,2,3,8,9])],[],false,0,[(6,[(4,23),(5,23),(6,23),(7,23)])]⟩,⟨[(2,[0,1,2])],[],false,0,[]⟩,⟨[(2,[0,1,2,3,4])],[],false,0,[]⟩,⟨[(2,[0,1,2,3,4]),(52,[1,2,3])],[],false,8388608,[]⟩]
def aBn:List FT:=[n_,n_,⟨[(2,[0,1]),(52,[0,3]),(54,[0,3]),(7144,[4,5,7,29,30,31]),(114328,[4,5,7,29,30,31]),(914636,[4,8]),(28583,[4,5,7,29,30,31])],[],false,2684355080,[]⟩,n_,n_,n_,n_,n_,n_,n_,n_,n_,n_,n_,n_,n_]
def aBm:List FT:=[n_,n_,n_,n_,n_,n_,⟨[(2,[0,1,2,3]),(52,[1,2,3])],[],false,524288,[]⟩,⟨[(2,[0,1])],[],false,0,[]⟩,n_,n_,n_,n_,n_,n_,n_,n_]
def aBo:List FT:=[n_,n_,n_,n_,n_,n_,n_,n_,n_,n_,n_,n_,n_,n_,n_,n_]
def TT:FuncId->FT:=aAx [tb0,tb1,tb2,tb3,tb4,tb5,tb6,tb7,tb8,tb9,aBp,aBy,aBe,aBj,aBx,aBz,aBu,aBh,aBw,aBn,aBm,aBo]
abbrev Dd (f:FuncId) (i:Nat) (a:List Nat) (Q:Value->AH->Prop) (vs:List Value) (h:AH):Prop:=Go.Ab.D Pr K TT f i a Q vs h
theorem cW {f:FuncId} {args:List Value} {Q:Value->AH->Prop} {h:AH} (a:wC Pr K TT f args Q h):Cl Pr K f args h Q:=Go.Ab.cW a
theorem rW {f:FuncId} {num m l d:Nat} {lv:List Nat} {vs args:List Value} {e:Nat->Value} {st:LoopState} {pd:Option Code} {Q:Value->AH->Prop} {h:AH} (c:h.get l=some (lp Pr f (mJ num) m e d st pd)) (a:List.map e lv=vs)
  (g:wR0 Pr K TT f num m lv vs l args Q h):C9 Pr K (.func (.yield l) #[] #[]) args h Q:=Go.Ab.rW c a g
end
end Go.Proofs.YtmhapehobfnoiaaGreatDoor
section
open Go Go.Ab
attribute [local irreducible] bB Br ld1 A5 I7 Cd kT yC kI Xx qS zP Bo pT nL mH yV A1 Xb T1 P6 P5 Tb Uj Mx Tc W6 kQ tQ tE iB copyV kV V5 Vo W0 Ed iZ Rp Vn Uz lZ rG Ay yZ Cl C9 Ui qR qH iO eI bS bG
namespace Go.Proofs.YtmhapehobfnoiaaGreatDoor
open Go Go.Ab Go.Hm
section
set_option maxRecDepth 100000
variable {G:Bg} {h:AH} {L L':List HP}
theorem R6 {C:bA} {p:Nat} {Q:Value->AH->Prop} (k:Hs G h (aR p 0 C.enc::L)):∀(f i:Nat),i+f=7->Q (I (C.X0 f i)) h->Dd 43 1 [] Q [(pt p 0 0),(I 0),(.agg ⟨jK⟩),(I i)] h:=by
 intro f;induction f with
 |zero=>
  intro i q a;exact bW (aT (aab a))
 |succ f u=>
  intro i q a;have c:i<7:=by omega
  refine bW (aT (aae (bW ?_)));have j:C.enc[0+i*1]?=some (I (C.list.getD i 0)):=by
   have:i=0\/i=1\/i=2\/i=3\/i=4\/i=5\/i=6:=by omega
   rcases this with rfl|rfl|rfl|rfl|rfl|rfl|rfl<;>rfl
  have t:jK[i]?=some (I (uf.getD i 0)):=by
   have:i=0\/i=1\/i=2\/i=3\/i=4\/i=5\/i=6:=by omega
   rcases this with rfl|rfl|rfl|rfl|rfl|rfl|rfl<;>rfl
  rw[bA.X0] at a;refine rz c t (vJ c (aS k j (aT (eE (fun e=>?_) (fun e=>vJ c (aS k j (mY (eE (fun g=>bW ?_) (fun g=>bW (aad (u (i+1) (by omega) ?_)))))))))));rw[aCx (.inl e)] at a;exact a;rw[aCx (.inr g)] at a;exact a;rw[aaa] at a;exact a
theorem mI {C:bA} {Q:Value->AH->Prop} (g:Ob G 0 jK) (a:Hs G h L) (f:∀e,Hs G e L->Q (I (if C.Ok then 0 else 10)) e):Cl Pr K 43 [.agg ⟨C.enc⟩] h Q:=by
 refine cW ?_;refine fZ a ?_;intro p h a;iterate 7 refine aC (aS a rfl ?_)
 refine cQ (c:=C.enc) rfl (fA a ?_);intro p h a;refine ap a ?_;intro h a;refine ua a g rfl ?_;refine R6 (C:=C) a 7 0 rfl ?_;show Q _ _;rw[bA.zx];exact f _ a.tail.tail
theorem nM {C:bA} (hC:C.Ok) {Q:Value->AH->Prop} (f:Ob G 0 jK) (a:Hs G h L) (e:∀c,Hs G c L->Q (I C.lines) c):Cl Pr K 62 [.agg ⟨C.enc⟩] h Q:=by
 refine cW ?_;refine fZ a ?_;intro p h a;refine cA a (by decide) (l:=C.enc) rfl rfl (mI f a fun h a=>?_);rw[aCx hC];have hb:=bA.eO hC;refine cZ (aab ?_);refine aC (aS a rfl (jm (by unfold bA.Ok at hC;omega) ?_));show Q _ _;rw[show C.aG*2=(C.lines:Int) from hb.1.symm];exact e _ a.tail
theorem W2 {C:bA} (hC:C.Ok) {l:Int} {Q:Value->AH->Prop} (i:Ob G 0 jK) (a:Hs G h L) (c:∀e,Hs G e L->Q (if 0<=l/\l<C.lines then .tuple ⟨[I (l % C.aK),I 0]⟩ else .tuple ⟨[I 0,I 10]⟩) e):Cl Pr K 187 [.agg ⟨C.enc⟩,I l] h Q:=by
 refine cW ?_;refine fZ a ?_;intro p h a;refine aT (eE (fun f=>?_) (fun f=>?_));have:=c _ a.tail;rw[aaa] at this;exact this;refine cA a (by decide) (l:=C.enc) rfl rfl (nM hC i a fun h a=>?_);refine jM (eE (fun g=>?_) (fun g=>?_));have:=c _ a.tail;rw[aaa] at this;exact this;have:=c _ a.tail;rw[aac] at this;refine aC (aS a rfl (Uf (by omega) (by unfold bA.Ok at hC;omega) ?_));exact this
end
section
set_option maxRecDepth 100000
variable {G:Bg} {h:AH} {L L':List HP}
structure BkA where
 r:Int
 w:Int
 a:Option Addr
 cap:Nat
def iS (n B b o i:Nat) (mem:Nat->Ln):HP:=Bb fun x:BkA=>
 sp [aR b o [I x.r,I x.w,.slice x.a (hM n B i) x.cap],fT 2 68 x.a x.cap (hM n B i,(List.range (hM n B i)).flatMap (O0 B i mem))]
theorem Bv {n B b o i:Nat} {mem:Nat->Ln} (c:Hs G h (iS n B b o i mem::L)):∃r w a cap,Hs G h (aR b o [I r,I w,.slice a (hM n B i) cap]::fT 2 68 a cap (hM n B i,(List.range (hM n B i)).flatMap (O0 B i mem))::L):=by
 obtain⟨⟨r,w,a,cap⟩,c⟩:=c.yS;exact⟨r,w,a,cap,c.unpack⟩
theorem sS {n B b o i:Nat} {mem:Nat->Ln} {r w:Int} {a:Option Addr} {cap:Nat} (c:Hs G h (aR b o [I r,I w,.slice a (hM n B i) cap]::fT 2 68 a cap (hM n B i,(List.range (hM n B i)).flatMap (O0 B i mem))::L)):Hs G h (iS n B b o i mem::L):=
 Hs.vK (A:=fun x:BkA=>sp [aR b o [I x.r,I x.w,.slice x.a (hM n B i) x.cap],fT 2 68 x.a x.cap (hM n B i,(List.range (hM n B i)).flatMap (O0 B i mem))]) ⟨r,w,a,cap⟩ (Hs.pack (A:=[_,_]) c)
structure MmA where
 b:Nat
 o:Nat
 cap:Nat
def fY (G:Bg) (n mb:Nat) (C:bA) (mem:Nat->Ln):HP:=Bb fun x:MmA=>
 sp [aR mb 0 (C.enc++[.slice (some ⟨x.b,x.o,none⟩) C.aK.toNat x.cap]),hole G 3 245 (some ⟨x.b,x.o,none⟩) x.cap C.aK.toNat x.b x.o,hJ C.aK.toNat fun i=>iS n C.aK.toNat x.b (x.o+i*3) i mem]
theorem zI {n mb:Nat} {C:bA} {mem:Nat->Ln} (a:Hs G h (fY G n mb C mem::L)):∃b o cap,Hs G h (aR mb 0 (C.enc++[.slice (some ⟨b,o,none⟩) C.aK.toNat cap])::hole G 3 245 (some ⟨b,o,none⟩) cap C.aK.toNat b o::hJ C.aK.toNat (fun i=>iS n C.aK.toNat b (o+i*3) i mem)::L):=by
 obtain⟨⟨b,o,cap⟩,a⟩:=a.yS;exact⟨b,o,cap,a.unpack⟩
theorem wI {n mb:Nat} {C:bA} {mem:Nat->Ln} {b o cap:Nat} (a:Hs G h (aR mb 0 (C.enc++[.slice (some ⟨b,o,none⟩) C.aK.toNat cap])::hole G 3 245 (some ⟨b,o,none⟩) cap C.aK.toNat b o::hJ C.aK.toNat (fun i=>iS n C.aK.toNat b (o+i*3) i mem)::L)):Hs G h (fY G n mb C mem::L):=
 Hs.vK (A:=fun x:MmA=>sp [aR mb 0 (C.enc++[.slice (some ⟨x.b,x.o,none⟩) C.aK.toNat x.cap]),hole G 3 245 (some ⟨x.b,x.o,none⟩) x.cap C.aK.toNat x.b x.o,hJ C.aK.toNat fun i=>iS n C.aK.toNat x.b (x.o+i*3) i mem]) ⟨b,o,cap⟩ (Hs.pack (A:=[_,_,_]) a)
theorem Oe {a c e:List HP} (n mb:Nat) (C:bA) (mem:Nat->Ln) (b o cap:Nat) (f:Hs G h L) [k:cT (aR mb 0 (C.enc++[.slice (some ⟨b,o,none⟩) C.aK.toNat cap])) L a] [g:cT (hole G 3 245 (some ⟨b,o,none⟩) cap C.aK.toNat b o) a c] [j:cT (hJ C.aK.toNat (fun i=>iS n C.aK.toNat b (o+i*3) i mem)) c e]:Hs G h (fY G n mb C mem::e):=
 wI (b:=b) (o:=o) (cap:=cap) (f.perm (k.perm.trans ((g.perm.trans (j.perm.cons _)).cons _)))
theorem J6 {C:bA} (hC:C.Ok) {mb b o cap l:Nat} {Q:Value->AH->Prop} (i:Ob G 0 jK) (a:Hs G h L) [m:Has (aR mb 0) L (C.enc++[.slice (some ⟨b,o,none⟩) C.aK.toNat cap]) L'] (j:l<C.lines)
  (g:∀c,Hs G c L->Q (.tuple ⟨[pt b (o+(l % C.aK.toNat)*3) 0,I (l/C.aK.toNat:Nat),I 0]⟩) c):Cl Pr K 147 [pt mb 0 0,I l] h Q:=by
 have hb:=bA.bk hC
 refine cW (fM (dO (bW ?_)))
 refine aN (aC (cA a (by decide) (l:=C.enc) rfl rfl (W2 hC i a fun h a=>?_)))
 rw[aac]
 refine bV rfl (bV rfl (cZ (aab ?_)))
 refine iN a ?_
 intro r h a
 refine aN (aC (aS a rfl ?_))
 have e:(l:Int) % C.aK=((l % C.aK.toNat:Nat):Int):=by rw[<-hb.1];simp
 have f:(l:Int)/C.aK=((l/C.aK.toNat:Nat):Int):=by rw[<-hb.1];simp
 rw[e]
 refine fN (Nat.mod_lt _ hb.2.1) (aN (aC (aC (aS a rfl (r9 (by omega) (by omega) (by have:=(bA.eO hC).2;omega) ?_)))))
 show Q _ _
 rw[f]
 exact g _ a.tail
theorem Pp {C:bA} (hC:C.Ok) {p mb:Nat} {Q:Value->AH->Prop} (E:∀u,Hs G u (fY G C.lines mb C iC::L)->Q (.tuple ⟨[pt mb 0 0,I 0]⟩) u):∀(f n:Nat) (h:AH) (g:HP),n+f=C.lines->Hs G h (fY G n mb C iC::aR p 0 C.enc::g::L)->
  Dd 47 2 [] Q [(pt p 0 0),(pt mb 0 0),(I C.lines),(I n)] h:=by
 have hb:=bA.bk hC
 have F:=bA.eO hC
 intro f
 induction f with
 |zero=>
  intro n h g J e
  have:n=C.lines:=by omega
  subst this
  exact bW (aT (aab (E _ e.to)))
 |succ f K=>
  intro n h g J e
  refine bW (aT (aae (bW ?_)))
  refine iN e ?_
  intro O h e
  obtain⟨b,o,cap,e⟩:=zI (e.front (fY G n mb C iC))
  refine aN (aC (aS e rfl (aC (aS e rfl ?_))))
  have y:(n:Int) % C.aK=((n % C.aK.toNat:Nat):Int):=by rw[<-hb.1];simp
  refine Uf (by omega) (by omega) ?_
  rw[y]
  have k:=Nat.mod_lt n hb.2.1
  refine fN k ?_
  have e:=(e.front (hJ C.aK.toNat fun i=>iS n C.aK.toNat b (o+i*3) i iC)).pW (n % C.aK.toNat) k
  obtain⟨r,w,a,P,e⟩:=Bv e
  refine aN (aC (aS e rfl (cQ (c:=gU (0,0)) rfl (cQ (c:=gU (0,0)) rfl ?_))))
  refine jG e rfl rfl rfl ?_
  intro a3 h e
  have A:=qd (n:=n) (B:=C.aK.toNat) (i:=n % C.aK.toNat) hb.2.1
  refine R2 e (by omega) ?_
  intro a4 v h e
  dsimp only
  refine aN (aC (ax e ?_))
  intro h e
  refine aad ?_
  refine K (n+1) h (sp [fT 2 68 (some a3) 1 (1,gU (0,0)),Zv O (10,[]),g]) (by omega) ?_
  have t:hM (n+1) C.aK.toNat (n % C.aK.toNat)=hM n C.aK.toNat (n % C.aK.toNat)+1:=by rw[Hx k,aCx rfl]
  have z:(List.range (hM n C.aK.toNat (n % C.aK.toNat))).flatMap (O0 C.aK.toNat (n % C.aK.toNat) iC)++gU (0,0)=(List.range (hM (n+1) C.aK.toNat (n % C.aK.toNat))).flatMap (O0 C.aK.toNat (n % C.aK.toNat) iC):=by
   rw[t,List.range_succ,List.flatMap_append];rfl
  rw[z,<-t] at e
  have e:=sS (n:=n+1) (r:=r) (w:=w) (a:=a4) (cap:=v) (b:=b) (o:=o+n % C.aK.toNat*3) e
  exact(Oe (n+1) mb C iC b o cap (e.Bz (n:=C.aK.toNat) (i:=n % C.aK.toNat) (fun i=>iS n C.aK.toNat b (o+i*3) i iC) (fun i=>iS (n+1) C.aK.toNat b (o+i*3) i iC) k (fun j D q=>by simp only[iS,Hx D,aCw q]))).to
theorem Jb {C:bA} (hC:C.Ok) {Q:Value->AH->Prop} (j:Ob G 0 jK) (e:Hs G h L) (t:∀mb f,Hs G f (fY G C.lines mb C iC::L)->Q (.tuple ⟨[pt mb 0 0,I 0]⟩) f):Cl Pr K 47 [.agg ⟨C.enc⟩] h Q:=by
 have hb:=bA.bk hC;refine cW (fZ e ?_);intro p h e;refine cA e (by decide) (l:=C.enc) rfl rfl (mI j e fun h e=>?_);rw[aCx hC];refine cZ (aab (bW (iN e ?_)));intro u h e;refine cA e (by decide) (l:=C.enc) rfl rfl (aC (aS e rfl (J2 (by omega) (by omega) (by omega) ?_)));dsimp only;refine zK e rfl rfl ?_ rfl ?_ ?_;rw[fH,qQ (W:=3) (fun _=>rfl)];rw[fH];exact sJ (fun _=>rfl) _;intro a h e;obtain⟨b,o,k,e⟩:=Hs.J5 (W:=3) rfl hb.2.1 e;cases k;refine cQ (c:=C.enc++[.slice (some ⟨b,o,none⟩) C.aK.toNat C.aK.toNat]) rfl ?_;refine Qr e rfl rfl ?_;intro mb h e;refine cA e (by decide) (l:=C.enc) rfl rfl (nM hC j e fun h e=>?_);have e:=(Hs.Rw (g:=fun i=>iS 0 C.aK.toNat b (o+i*3) i iC) C.aK.toNat _ (fun i q h L e=>?_) (e.front (hJ C.aK.toNat fun i=>aR b (o+i*3) [I 0,I 0,.slice none 0 0])));have e:=Oe 0 mb C iC b o C.aK.toNat e;exact Pp hC (t mb) C.lines 0 h _ (by omega) (e.to (M:=[fY G 0 mb C iC,aR p 0 C.enc,sp []]++L));refine sS (r:=0) (w:=0) (a:=none) (cap:=0) ?_;rw[W3 q];exact(sK e).rL
end
end Go.Proofs.YtmhapehobfnoiaaGreatDoor
end
section
namespace Go.Ab
abbrev tx (l:List UInt8):Value:= .string ⟨l.toArray⟩
variable {G:Bg} {h:AH} {L L':List HP}
def Rh (a:List Nat):HP:=sp (a.map fun d=>mk d ())
theorem Y3 {k:AH->Prop}:∀(c:List Nat) {h:AH},Hs G h (Rh c::L)->(∀f,Hs G f L->k f)->bB (bG c h) k:=by
 intro c;induction c with
 |nil=>intro h a e;exact uU (e _ a.tail)
 |cons d c g=>
  intro h a e;have a:Hs G h (mk d ()::((c.map fun d=>mk d ())++L)):=Hs.unpack a;exact tY a fun h a=>g (Hs.pack a) e
end Go.Ab
end
namespace Go.Is
open Go Go.Ab
section
def opsL:List (List UInt8×List Int):=[([],[0,0,0]),([115,101,116],[1,2,0]),([97,100,100],[1,1,1]),([108,111,97,100],[1,1,0]),([115,116,111,114,101],[1,1,0]),([115,119,97,112],[1,1,0]),([102,101,110,99,101],[0,0,0]),
  ([119,111,114,108,100],[3,0,0]),([99,97,108,108],[4,1,1]),([106,117,109,112],[5,0,0]),([122,101,114,111],[1,5,0]),([104,97,108,116],[0,0,0])]
def rT:List Value:=opsL.flatMap fun r=>tx r.1::r.2.map I
structure Ins where
 op:Int
 a:Int
 b:Int
 c:Int
 deriving DecidableEq
def Ins.enc (x:Ins):List Value:=[I x.op,I x.a,I x.b,I x.c]
def wV (o:Nat):List Int:=(opsL.getD o ([],[])).2
def u7 (x:Int):Bool:=decide (1<=x/\x<12)
def vA (pX v many:Int):Bool:=
 if pX=1 then decide (0<=v/\v<4) else if pX=2 then true else if pX=3 then decide (1<=v/\v<=3) else if pX=4 then decide (1<=v/\v<=4) else if pX=5 then decide (0<=v/\v<=many) else decide (v=0)
def Ins.Hk (x:Ins):List Int:=[x.a,x.b,x.c]
def Ins.yY (x:Ins):List (Int×Int):=(wV x.op.toNat).zip x.Hk
def nD (x:Ins) (many:Int):Int:=if u7 x.op then(if(x.yY.all fun p=>vA p.1 p.2 many) then 0 else 10) else 15
def X0 (many:Int):List Ins->Nat->Int×Int
 |[],_=>(0,0)
 |x::l,i=>if nD x many≠0 then((i:Int)+1,nD x many) else X0 many l (i+1)
def gF (p:List Ins):Int×Int:=if 32<p.length then(0,11) else X0 p.length p 0
theorem o12 {k:Nat} (h:k<12):k=0\/k=1\/k=2\/k=3\/k=4\/k=5\/k=6\/k=7\/k=8\/k=9\/k=10\/k=11:=by omega
theorem je {k i:Nat} (h:k<12) (c:i<3):rT[k*4+(1+i*1)]?=some (I ((wV k).getD i 0)):=by
 have a:i=0\/i=1\/i=2:=by omega
 rcases o12 h with rfl|rfl|rfl|rfl|rfl|rfl|rfl|rfl|rfl|rfl|rfl|rfl<;>rcases a with rfl|rfl|rfl<;>rfl
theorem N3 {k:Nat} (h:k<12):(wV k).length=3:=by
 rcases o12 h with rfl|rfl|rfl|rfl|rfl|rfl|rfl|rfl|rfl|rfl|rfl|rfl<;>rfl
theorem I2 {x:Ins} (h:u7 x.op=true):x.yY.length=3:=by
 have:=of_decide_eq_true h;unfold Ins.yY;rw[List.length_zip,N3 (by omega)];rfl
theorem zG {x:Ins} (h:u7 x.op=true) {i:Nat} (c:i<3):x.yY[i]?=some ((wV x.op.toNat).getD i 0,x.Hk.getD i 0):=by
 have:=of_decide_eq_true h;have a:=N3 (k:=x.op.toNat) (by omega);unfold Ins.yY;rw[List.getElem?_zip_eq_some];refine⟨?_,?_⟩;show(wV x.op.toNat)[i]?=some ((wV x.op.toNat).getD i 0);rw[List.getD_eq_getElem?_getD,List.getElem?_eq_getElem (by omega)];rfl;show x.Hk[i]?=some (x.Hk.getD i 0);rw[List.getD_eq_getElem?_getD,List.getElem?_eq_getElem (by simp[Ins.Hk];omega)];rfl
theorem J4 {many:Int}:∀(l:List Ins) (i:Nat),(X0 many l i).2=0->∀x∈l,nD x many=0
 |[],_,_,x,a=>by simp at a
 |y::l,i,h,x,a=>by
  rw[X0] at h;split at h;rename_i c;exact absurd h c;rename_i c;rcases List.mem_cons.1 a with rfl|a;omega;exact J4 l (i+1) h x a
theorem mI {p:List Ins} (h:(gF p).2=0):p.length<=32/\∀x∈p,nD x p.length=0:=by
 unfold gF at h;split at h;cases h;exact⟨by omega,J4 p 0 h⟩
end
end Go.Is
namespace Go.Proofs.YtmhapehobfnoiaaGreatDoor
open Go Go.Ab Go.Is
section
theorem xg {g n a i:Nat} {x:Int} {k:Value->Prop} (e:x=(i:Int)) (f:i<n) (c:k (pt g (i*a) 0)):bB (tQ n a (.pointer (some ⟨g,0,none⟩)) (I x)) k:=by
 subst e;exact Sa (b:=g) (o:=0) (j:=0) (by omega) (by omega) (by simpa [pt] using c)
theorem tM {α:Type} {l:List α} {i:Nat} (h:i<l.length):∃x,l[i]?=some x/\l.drop i=x::l.drop (i+1):=⟨l[i],by simp,List.drop_eq_getElem_cons h⟩
set_option maxRecDepth 100000
attribute [local irreducible] bB Br ld1 A5 I7 Cd kT yC kI Xx qS zP Bo pT nL mH yV A1 Xb T1 P6 P5 Tb Uj Mx Tc W6 kQ tQ tE iB copyV kV V5 Vo W0 Ed iZ Rp Vn Uz lZ rG Ay yZ Cl C9 Ui qR qH iO eI bS bG
variable {G:Bg} {h:AH} {L L' M:List HP} {Q:Value->AH->Prop}
theorem Wc {x:Int} (a:Q (.bool (u7 x)) h):Cl Pr K 149 [I x] h Q:=by
 refine cW (jM (eE (fun c=>aT ?_) (fun c=>?_)));show Q _ _;rw[show decide (x<12)=u7 x from decide_eq_decide.2 (by omega)];exact a;show Q _ _;rw[show false=u7 x from(decide_eq_false (by omega)).symm];exact a
theorem Ph {pX v many:Int} (a:Q (.bool (vA pX v many)) h):Cl Pr K 151 [I pX,I v,I many] h Q:=by
 unfold vA at a;refine cW (mW (eE (fun c=>?_) (fun f=>bW (mW (eE (fun c=>?_) (fun g=>bW (mW (eE (fun c=>?_) (fun i=>bW (mW (eE (fun c=>?_) (fun n4=>bW (mW (eE (fun c=>?_) (fun n5=>mW ?_)))))))))))))));rw[aCx c] at a;refine jM (eE (fun e=>aT ?_) (fun e=>?_));show Q _ _;rw[show decide (v<4)=decide (0<=v/\v<4) from decide_eq_decide.2 (by omega)];exact a;rw[decide_eq_false (by omega)] at a;exact a;rw[aCw f,aCx c] at a;exact a;rw[aCw f,aCw g,aCx c] at a;refine jM (eE (fun e=>As ?_) (fun e=>?_));show Q _ _;rw[show decide (v<=3)=decide (1<=v/\v<=3) from decide_eq_decide.2 (by omega)];exact a;rw[decide_eq_false (by omega)] at a;exact a;rw[aCw f,aCw g,aCw i,aCx c] at a;refine jM (eE (fun e=>As ?_) (fun e=>?_));show Q _ _;rw[show decide (v<=4)=decide (1<=v/\v<=4) from decide_eq_decide.2 (by omega)];exact a;rw[decide_eq_false (by omega)] at a;exact a;rw[aCw f,aCw g,aCw i,aCw n4,aCx c] at a;refine jM (eE (fun e=>As ?_) (fun e=>?_));show Q _ _;rw[show decide (v<=many)=decide (0<=v/\v<=many) from decide_eq_decide.2 (by omega)];exact a;rw[decide_eq_false (by omega)] at a;exact a;rw[aCw f,aCw g,aCw i,aCw n4,aCw n5] at a;exact a
def prE (p:Int×Int):List Value:=[I p.1,I p.2]
theorem Eu {x:Ins} (a:Hs G h L) (e:∀p c,Hs G c (aR p 0 x.enc::L)->Q (.func (.func 188) #[] #[pt p 0 0]) c):Cl Pr K 150 [.agg ⟨x.enc⟩] h Q:=by
 exact cW (fZ a fun p h a=>e _ _ a)
theorem Ho {x:Ins} {p:Nat} (g:u7 x.op=true) (E:Ob G 1 rT):nw Pr K G 188 [] [pt p 0 0] (aR p 0 x.enc) (x.yY.map prE):=by
 intro t J y L h Q a P A B;have O:=of_decide_eq_true g;refine cW ?_;refine aC (aS a rfl (aC (aS a rfl (aC (aS a rfl (cQ (c:=x.Hk.map I) rfl ?_))))));have loop:∀(f i:Nat) (h:AH),i+f=3->Hs G h (aR p 0 x.enc::t ((x.yY.drop i).map prE)::L)->Dd 188 1 [] Q [y,(pt p 0 0),(.agg ⟨x.Hk.map I⟩),(I i)] h:=by
  intro f;induction f with
  |zero=>
   intro i h F a;rw[List.drop_of_length_le (by rw[I2 g];omega)] at a;exact bW (aT (aab (A _ _ a)))
  |succ f R=>
   intro i h F a;obtain⟨q,j,D⟩:=tM (l:=x.yY) (i:=i) (by rw[I2 g];omega);rw[zG g (by omega)] at j;simp only[Option.some.injEq] at j;rw[D] at a;have u:i=0\/i=1\/i=2:=by omega
   have w:(x.Hk.map I)[i]?=some (I q.2):=by
    rw[<-j];rcases u with rfl|rfl|rfl<;>rfl
   refine bW (aT (aae (bW (rz (by omega) w (aC (aS a rfl (xg (i:=x.op.toNat) (by omega) (by omega) (aC (vJ (by omega) ?_)))))))));refine qo a E (je (by omega) (by omega)) ?_;have k:(wV x.op.toNat).getD i 0=q.1:=by rw[<-j]
   rw[k];refine(P _ _ h _ a.rL).mono fun v z k=>?_;rcases k with⟨rfl,e⟩|⟨rfl,e⟩;exact gM (dO (bW (aad (R (i+1) z (by omega) e.rL))));exact gM (iM (B _ _ e.rL))
 exact loop 3 0 h rfl a
abbrev yi (p1 p5:Nat) (many v:Int) (e:Nat->Value) (d l:Nat) (z:LoopState×Option Code) (c:Prop):HP:=sp [Ck c,mD Pr 98 (mJ 442) 22 e d l z,aR p5 0 [I many],aR p1 0 [I v]]
theorem Q0 {x:Ins} {many:Int} (z:Ob G 1 rT) (a:Hs G h L) (f:∀t,Hs G t L->Q (I (nD x many)) t):Cl Pr K 98 [.agg ⟨x.enc⟩,I many] h Q:=by
 refine cW (fZ a fun A h a=>fZ a fun g h a=>aC (aS a rfl (Wc (gM (uK (zW (fun j=>?_) (fun j=>?_)))))));rotate_left;have:=f h a.tail.tail;unfold nD at this;rw[aCw (by rw[j];decide)] at this;exact uU this;unfold nD at f;rw[aCx j] at f;refine bW (fA a fun p1 h a=>ap a fun h a=>cA a (by decide) (l:=x.enc) rfl rfl (Eu a fun p h a=>nB a fun d h a=>?_));intro e w;refine nI a fun l h a=>uA rfl ?_;have a:Hs G h (aR p 0 x.enc::yi p1 g many 0 e d l (.ready,none) ((([]:List (Int×Int)).all fun p=>vA p.1 p.2 many)=true)::mk d ()::L):=by
  refine Hs.rL (I4 rfl (Hs.Mk ?_));have a:=a.eW (mD Pr 98 (mJ 442) 22 e d l (.ready,none)) (aR g 0 [I many]) (aR p1 0 [I 0]);exact a.to
 refine(Ho (p:=p) j z).fold (X:=fun done=>yi p1 g many 0 e d l (.ready,none) ((done.all fun p=>vA p.1 p.2 many)=true)) (Z:=fun _ y=>yi p1 g many 10 e d l (.done,some (.exit 0)) (vA y.1 y.2 many=false)) a ?_ ?_ ?_
 .intro done y h M u a;obtain⟨i,c⟩:=sA a;clear a;have a:=c.Gq;refine rW (F4 a) w (nO a fun h a=>ae g a rfl (Ph (gM (uK (zW (fun k=>?_) (fun k=>?_))))));refine tC a fun h a=> .inl ⟨rfl,I4 ?_ (Hs.Mk a.to)⟩;rw[List.all_append,i];simp[k];refine ap (b:=p1) (o:=0) a fun h a=>tC a fun h a=> .inr ⟨rfl,I4 k (Hs.Mk ?_)⟩;exact a.to
 intro v h a;have a:=a.front (yi p1 g many 0 e d l (.ready,none) ((x.yY.all fun p=>vA p.1 p.2 many)=true));obtain⟨i,c⟩:=sA a;clear a;have a:=c.Gq;rw[aCx i] at f;exact oJ a fun h a=>oM (ae p1 a rfl (tY a fun h a=>uU (f _ a.to)))
 .intro done y v h u a;have a:=a.front (yi p1 g many 10 e d l (.done,some (.exit 0)) (vA y.1 y.2 many=false));obtain⟨i,c⟩:=sA a;clear a;have a:=c.Gq;rw[aCw ?_] at f;exact Zc a fun h a=>vb rfl (ae p1 a rfl (tY a fun h a=>uU (f _ a.to)));obtain⟨B,q⟩:=u;rw[<-q];simp[i]
theorem G9 {t:Value} {p:List Ins} {_v0 v1:Value} {e:TypeId} (u:v1=I p.length) (B:p.length<=32) (w:Ob G 1 rT) (j:∀k,Hs G k (yR G 4 e t (p.map Ins.enc)::L)->Q (.tuple ⟨[I (gF p).1,I (gF p).2]⟩) k):
  ∀(f i:Nat) (h:AH),i+f=p.length->gF p=X0 p.length (p.drop i) i->Hs G h (yR G 4 e t (p.map Ins.enc)::L)->Dd 45 2 [] Q [t,t,v1,(I i)] h:=by
 subst u
 intro f
 induction f with
 |zero=>
  intro i h y g a
  rw[List.drop_of_length_le (by omega)] at g
  rw[g] at j
  exact bW (aT (aab (j _ a)))
 |succ f A=>
  intro i h y g a
  obtain⟨x,z,v⟩:=tM (l:=p) (i:=i) (by omega)
  rw[v,X0] at g
  obtain⟨E,F,q⟩:=uB a
  refine bW (aT (aae (bW (aB8 a (by decide) (i:=i) (x:=x.enc) (by simp[z]) (fA a fun D h a=>?_)))))
  refine ap a fun h a=>cA a (by decide) (l:=x.enc) rfl rfl ?_
  rw[q]
  refine bU ?_
  rw[<-q,List.length_map]
  refine Q0 w a fun h a=>cZ (eE (fun c=>?_) (fun c=>?_))
  .rw[aCx c] at g;rw[g] at j;exact aad (j _ a.tail)
  .rw[aCw c] at g;exact bW (aad (A (i+1) h (by omega) g a.tail))
theorem Au {t:Value} {p:List Ins} {e:TypeId} (i:Ob G 1 rT) (f:Hs G h (yR G 4 e t (p.map Ins.enc)::L)) (a:∀g,Hs G g (yR G 4 e t (p.map Ins.enc)::L)->Q (.tuple ⟨[I (gF p).1,I (gF p).2]⟩) g):
  Cl Pr K 45 [t] h Q:=by
 obtain⟨q,u,j⟩:=uB f
 have len:∀{k:Value->Prop},k (I p.length)->bB (mH t) k:=fun a=>by
  rw[j];refine bU ?_;rw[List.length_map];exact a
 refine cW (len (mY (eE (fun c=>?_) (fun c=>?_))))
 .have:=a h f;unfold gF at this;rw[aac] at this;exact this
 .refine bW (len (G9 (_v0:=t) rfl (by omega) i a p.length 0 h (by omega) ?_ f));unfold gF;rw[aaa];rfl
end
end Go.Proofs.YtmhapehobfnoiaaGreatDoor
namespace Go.At
open Go Go.Ab Go.Hm Go.Is
section
structure Ev where
 core:Int
 at':Int
 op:Int
 world:Int
 word:Int
 value:Int
 code:Int
 deriving DecidableEq
def Ev.enc (x:Ev):List Value:=[I x.core,I x.at',I x.op,I x.world,I x.word,I x.value,I x.code]
def yx:Ev:=⟨0,0,0,0,0,0,0⟩
structure aJ where
 dA:Nat->Int
 at':Int
 world:Int
 over:Bool
 prog:List Ins
def aJ.core (s:aJ):List Value:=[I (s.dA 0),I (s.dA 1),I (s.dA 2),I (s.dA 3),I s.at',I s.world,.bool s.over]
def yJ (p:List Ins) (a:Int):Ins:=p.getD a.toNat ⟨0,0,0,0⟩
def zH (p:List Ins) (a:Int):Bool:=if(p.length:Int)<=a then true else decide ((yJ p a).op=11)
def aJ.eY (s:aJ) (a:Int):aJ:={s with at':=a,over:=zH s.prog a}
def aJ.dE (s:aJ) (i v:Int):aJ:={s with dA:=aI s.dA i.toNat v}
def aJ.wx (s:aJ) (v:Int):aJ:={s with world:=v}
def kM (mem:Nat->Ln) (w:Nat):Int:=if w % 2=0 then(mem (w/2)).1 else(mem (w/2)).2
def oC (mem:Nat->Ln) (w:Nat) (v:Int):Nat->Ln:=aI mem (w/2) (if w % 2=0 then(v,(mem (w/2)).2) else((mem (w/2)).1,v))
def jY (mem:Nat->Ln) (g:Nat):Nat->Ln:=aI (aI mem (g*2) (0,0)) (g*2+1) (0,0)
structure AM where
 cfg:bA
 aB:Nat->aJ
 dU:List Int
 mem:Nat->Ln
def AM.oS (m:AM) (i:Nat) (s:aJ):AM:={m with aB:=aI m.aB i s}
def AM.kY (m:AM) (mem:Nat->Ln):AM:={m with mem:=mem}
def AM.Gg (m:AM) (o:List Int):AM:={m with dU:=o}
def Hh (world owner:Int):Bool:=if 0<=world/\world<=3/\0<=owner/\owner<=4 then decide (world=0\/owner=world\/owner=4) else false
def AM.may (m:AM) (world word:Int):Bool:=if 0<=word/\word<m.cfg.lines*2 then Hh world (m.dU.getD (word.toNat/4) 0) else false
def AM.access (m:AM) (i:Nat) (x:Ins):AM×Int×Int:=
 if m.may (m.aB i).world ((m.aB i).dA x.b.toNat) then
  if x.op=3 then(m.oS i ((m.aB i).dE x.a (kM m.mem ((m.aB i).dA x.b.toNat).toNat)),kM m.mem ((m.aB i).dA x.b.toNat).toNat,0)
  else if x.op=4 then(m.kY (oC m.mem ((m.aB i).dA x.b.toNat).toNat ((m.aB i).dA x.a.toNat)),(m.aB i).dA x.a.toNat,0)
  else((m.kY (oC m.mem ((m.aB i).dA x.b.toNat).toNat ((m.aB i).dA x.a.toNat))).oS i ((m.aB i).dE x.a (kM m.mem ((m.aB i).dA x.b.toNat).toNat)),kM m.mem ((m.aB i).dA x.b.toNat).toNat,0)
 else(m,0,19)
def hQ (call world owner to:Int):Int×Bool×Int:=
 if ¬((0<=world/\world<=3)/\(0<=owner/\owner<=4)) then(0,false,10)
 else if call=1 then(if world≠0 then(0,false,18) else if owner≠0 then(0,false,16) else if ¬(1<=to/\to<=3) then(0,false,1) else(to,true,0))
 else if call=2 then(if owner=0 then(0,false,16) else if world≠0/\world≠owner then(0,false,18) else(0,true,0))
 else if call=3 then(if world=0\/world≠owner then(0,false,18) else if ¬(1<=to/\to<=3)\/to=owner then(0,false,1) else(to,true,0))
 else if call=4 then(if owner=4 then(0,false,16) else if world≠owner then(0,false,18) else(4,false,0))
 else(0,false,15)
def AM.call (m:AM) (call world a to:Int) (busy:Bool):AM×Int:=
 if ¬(0<=a/\a<m.dU.length) then(m,10)
 else if busy then(m,17)
 else if(hQ call world (m.dU.getD a.toNat 0) to).2.2≠0 then(m,(hQ call world (m.dU.getD a.toNat 0) to).2.2)
 else((m.Gg (m.dU.set a.toNat (hQ call world (m.dU.getD a.toNat 0) to).1)).kY (if(hQ call world (m.dU.getD a.toNat 0) to).2.1 then jY m.mem a.toNat else m.mem),0)
def AM.eY (m:AM) (i:Nat) (a:Int):AM:=m.oS i ((m.aB i).eY a)
def AM.sX (m:AM) (i:Nat) (x:Ins) (busy:Bool):AM×Int×Int×Int×Int:=
 if x.op=1 then(m.oS i ((m.aB i).dE x.a x.b),0,x.b,0,(m.aB i).at'+1)
 else if x.op=2 then(m.oS i ((m.aB i).dE x.a (wr ((m.aB i).dA x.b.toNat+(m.aB i).dA x.c.toNat))),0,wr ((m.aB i).dA x.b.toNat+(m.aB i).dA x.c.toNat),0,(m.aB i).at'+1)
 else if x.op=3\/x.op=4\/x.op=5 then((m.access i x).1,(m.aB i).dA x.b.toNat,(m.access i x).2.1,(m.access i x).2.2,(m.aB i).at'+1)
 else if x.op=7 then(if(m.aB i).world=0 then(m.oS i ((m.aB i).wx x.a),0,x.a,0,(m.aB i).at'+1) else(m,0,x.a,18,(m.aB i).at'+1))
 else if x.op=8 then((m.call x.a (m.aB i).world ((m.aB i).dA x.b.toNat) ((m.aB i).dA x.c.toNat) busy).1.oS i ((m.aB i).dE x.b (m.call x.a (m.aB i).world ((m.aB i).dA x.b.toNat) ((m.aB i).dA x.c.toNat) busy).2),(m.aB i).dA x.b.toNat,(m.aB i).dA x.c.toNat,(m.call x.a (m.aB i).world ((m.aB i).dA x.b.toNat) ((m.aB i).dA x.c.toNat) busy).2,(m.aB i).at'+1)
 else if x.op=9 then(m,0,x.a,0,x.a)
 else if x.op=10 then(m,0,(m.aB i).dA x.a.toNat,0,if(m.aB i).dA x.a.toNat=0 then x.b else(m.aB i).at'+1)
 else(m,0,0,0,(m.aB i).at'+1)
def AM.step (m:AM) (core:Int) (busy:Bool):AM×Ev×Int:=
 if ¬(0<=core/\core<m.cfg.aD) then(m,yx,10)
 else if(m.aB core.toNat).over then(m,yx,20)
 else
  let s:=m.aB core.toNat
  let x:=yJ s.prog s.at'
  let r:=m.sX core.toNat x busy
  (r.1.eY core.toNat r.2.2.2.2,⟨core,s.at',x.op,s.world,r.2.1,r.2.2.1,r.2.2.2.1⟩,0)
def aJ.Ok (s:aJ):Prop:=0<=s.at'/\s.at'<=32/\s.over=zH s.prog s.at'/\s.prog.length<=32/\∀x∈s.prog,nD x s.prog.length=0
structure AM.Ok (m:AM):Prop where
 cfg:m.cfg.Ok
 aB:∀i:Nat,(i:Int)<m.cfg.aD->(m.aB i).Ok
 dU:(m.dU.length:Int)=m.cfg.aG
def oK:List (List Ins)->Int
 |[]=>0
 |p::l=>if(gF p).2≠0 then(gF p).2 else oK l
def within (a b:Int) (l:List Int):Bool:=l.all fun x=>decide (a<=x/\x<=b)
def wM (C:bA) (ps:List (List Ins)) (ws os vs:List Int):Int:=
 if ¬C.Ok then 10
 else if(ps.length:Int)≠C.aD\/(ws.length:Int)≠C.aD\/(os.length:Int)≠C.aG\/vs.length≠C.lines*2 then 1
 else if oK ps≠0 then oK ps
 else if ¬(within 0 3 ws=true/\within 0 4 os=true) then 10
 else 0
def words (mem:Nat->Ln):List Int->Nat->Nat->Ln
 |[],_=>mem
 |v::l,i=>words (oC mem i v) l (i+1)
def nX (p:List Ins) (w:Int):aJ:={dA:=fun _=>0,at':=0,world:=w,over:=zH p 0,prog:=p}
def Qf (C:bA) (ps:List (List Ins)) (ws os vs:List Int):AM:=⟨C,fun i=>nX (ps.getD i []) (ws.getD i 0),os,words iC vs 0⟩
def pR (x:Ev):Bool:=decide (x.code=17)
def cf (m:AM) (x:Ev):Int:=if(m.step x.core (pR x)).2.2=20 then 20 else if(m.step x.core (pR x)).2.2≠0\/(m.step x.core (pR x)).2.1≠x then 16 else 0
def oD:AM->List Ev->Nat->AM×Nat×Int
 |m,[],n=>(m,n,0)
 |m,x::l,n=>if cf m x≠0 then(m,n,cf m x) else oD (m.step x.core (pR x)).1 l (n+1)
theorem R1 {m:AM} {c w g t:Int} {b:Bool}:(m.call c w g t b).1.cfg=m.cfg/\(m.call c w g t b).1.dU.length=m.dU.length/\(m.call c w g t b).1.aB=m.aB:=by
 unfold AM.call;repeat' split
 all_goals simp[AM.Gg,AM.kY]
theorem ff {x:Ins} {n:Int} (h:nD x n=0):(1<=x.op/\x.op<12)/\vA ((wV x.op.toNat).getD 0 0) x.a n=true/\vA ((wV x.op.toNat).getD 1 0) x.b n=true/\vA ((wV x.op.toNat).getD 2 0) x.c n=true:=by
 unfold nD at h;split at h;rename_i c;split at h;rename_i e;have a:=List.all_eq_true.1 e;refine⟨of_decide_eq_true c,?_,?_,?_⟩;exact a _ (List.mem_of_getElem? (zG c (i:=0) (by omega)));exact a _ (List.mem_of_getElem? (zG c (i:=1) (by omega)));exact a _ (List.mem_of_getElem? (zG c (i:=2) (by omega)));cases h;cases h
structure Fits (x:Ins) (n:Int):Prop where
 r1:x.op=1\/x.op=2\/x.op=3\/x.op=4\/x.op=5\/x.op=10->0<=x.a/\x.a<4
 r2:x.op=2\/x.op=3\/x.op=4\/x.op=5\/x.op=8->0<=x.b/\x.b<4
 r3:x.op=2\/x.op=8->0<=x.c/\x.c<4
 p1:x.op=9->0<=x.a/\x.a<=n
 p2:x.op=10->0<=x.b/\x.b<=n
theorem Zu {x:Ins} {n:Int} (h:nD x n=0):Fits x n:=by
 obtain⟨_,a,c,f⟩:=ff h;refine⟨fun e=>?_,fun e=>?_,fun e=>?_,fun e=>?_,fun e=>?_⟩;rcases e with e|e|e|e|e|e<;>rw[e] at a<;>exact of_decide_eq_true a;rcases e with e|e|e|e|e<;>rw[e] at c<;>exact of_decide_eq_true c;rcases e with e|e<;>rw[e] at f<;>exact of_decide_eq_true f;rw[e] at a;exact of_decide_eq_true a;rw[e] at c;exact of_decide_eq_true c
theorem lg {p:List Ins} {a:Int} (h:zH p a=false):a<p.length:=by
 unfold zH at h;split at h;cases h;omega
theorem Z1 {p:List Ins} {a:Int} (c:0<=a) (h:a<p.length):yJ p a∈p:=by
 unfold yJ;rw[List.getD_eq_getElem?_getD,List.getElem?_eq_getElem (by omega)];exact List.getElem_mem _
end
end Go.At
section
open Go Go.Ab
attribute [local irreducible] bB Br ld1 A5 I7 Cd kT yC kI Xx qS zP Bo pT nL mH yV A1 Xb T1 P6 P5 Tb Uj Mx Tc W6 kQ tQ tE iB copyV kV V5 Vo W0 Ed iZ Rp Vn Uz lZ rG Ay yZ Cl C9 Ui qR qH iO eI bS bG
namespace Go.Proofs.YtmhapehobfnoiaaGreatDoor
open Go Go.Ab Go.Hm Go.At
section
set_option maxRecDepth 100000
variable {G:Bg} {h:AH} {L L':List HP} {Q:Value->AH->Prop}
theorem Wq {C:bA} (f:Ob G 0 jK) (a:Hs G h L) (c:∀e,Hs G e L->Q (I (if C.Ok then C.lines else 0:Nat)) e):Cl Pr K 62 [.agg ⟨C.enc⟩] h Q:=by
 by_cases hC:C.Ok;rw[aCx hC] at c;exact nM hC f a c;rw[aCw hC] at c;refine cW ?_;refine fZ a ?_;intro p h a;refine cA a (by decide) (l:=C.enc) rfl rfl (mI f a fun h a=>?_);rw[aCw hC];exact cZ (aae (c _ a.tail))
theorem Vv {C:bA} (f:Ob G 0 jK) (a:Hs G h L) (e:∀c,Hs G c L->Q (I ((if C.Ok then C.lines else 0:Nat)*2:Nat)) c):Cl Pr K 44 [.agg ⟨C.enc⟩] h Q:=by
 refine cW (fZ a fun p h a=>?_);refine cA a (by decide) (l:=C.enc) rfl rfl (Wq f a fun h a=>?_);have hb:(if C.Ok then C.lines else 0:Nat)<=32:=by
  split;rename_i hC;exact(bA.eO hC).2.2;omega
 refine jm (by omega) ?_;have:=e _ a.tail;rw[Int.natCast_mul] at this;exact this
theorem Px {C:bA} (hC:C.Ok) (e:Ob G 0 jK) (f:Hs G h L) (c:∀a,Hs G a L->Q (I (C.lines*2:Nat)) a):Cl Pr K 44 [.agg ⟨C.enc⟩] h Q:=
 Vv e f (by rw[aCx hC];exact c)
theorem Xk {C:bA} (hC:C.Ok) {w:Int} (i:Ob G 0 jK) (a:Hs G h L)
  (c:∀e,Hs G e L->Q (if 0<=w/\w<C.lines*2 then .tuple ⟨[I (w.toNat/2:Nat),I (w.toNat % 2:Nat),I 0]⟩ else .tuple ⟨[I 0,I 0,I 10]⟩) e):Cl Pr K 146 [.agg ⟨C.enc⟩,I w] h Q:=by
 refine cW (fZ a fun p h a=>aT (eE (fun f=>?_) (fun f=>?_)))
 .have:=c _ a.tail;rw[aaa] at this;exact this
 .refine cA a (by decide) (l:=C.enc) rfl rfl (Px hC i a fun h a=>jM (eE (fun g=>?_) (fun g=>?_)))
  .have:=c _ a.tail;rw[aaa] at this;exact this
  .have hb:=(bA.eO hC).2.2;have:=c _ a.tail;rw[aac] at this;obtain⟨n,rfl⟩:∃n:Nat,w=n:=⟨w.toNat,by omega⟩;refine r9 (by omega) (by omega) (by omega) (Uf (by omega) (by omega) ?_);exact this
theorem kr {o:Int} (a:Q (.bool (decide (0<=o/\o<=4))) h):Cl Pr K 148 [I o] h Q:=by
 refine cW (jM (eE (fun c=>As ?_) (fun c=>?_)));show Q _ _;rw[show decide (o<=4)=decide (0<=o/\o<=4) from decide_eq_decide.2 (by omega)];exact a;show Q _ _;rw[show false=decide (0<=o/\o<=4) from(decide_eq_false (by omega)).symm];exact a
end
end Go.Proofs.YtmhapehobfnoiaaGreatDoor
end
namespace Go.Ct
open Go Go.Ab Go.Hm
section
variable {n ways:Nat} {S:Nat->List Th} {s:eM} {C:bA} {core:Int}
def gK (x to:Int):Int:=if to=1 then Ky x else 0
def aQ (n:Nat) (S:Nat->List Th) (no:Int):vT×Int:=if no<0 then(vT.zero,10) else match get no (S (setOf n no)) with|some x=>(x,0)|none=>(vT.zero,12)
def Dt (n ways:Nat) (S:Nat->List Th) (no:Int):Option Th:=match get no (S (setOf n no)) with
 |some _=>none
 |none=>if(S (setOf n no)).length<ways then none else(S (setOf n no))[0]?
def fR (n:Nat) (S:Nat->List Th) (no:Int):Nat->List Th:=if no<0 then S else aI S (setOf n no) (rem no (S (setOf n no)))
def kR (n ways:Nat) (S:Nat->List Th) (no:Int) (x:vT):(Nat->List Th)×Int:=
 if(rem no (S (setOf n no))).length>=ways then(aI S (setOf n no) (rem no (S (setOf n no))),11) else(aI S (setOf n no) (rem no (S (setOf n no))++[(no,x)]),0)
def Af (n ways:Nat) (S:Nat->List Th) (no:Int):Nat->List Th:=if(aQ n S no).2=0 then(kR n ways (fR n S no) no (aQ n S no).1).1 else fR n S no
def s9 (n ways:Nat) (S:Nat->List Th) (no:Int):Int:=if(aQ n S no).2=0 then(kR n ways (fR n S no) no (aQ n S no).1).2 else(aQ n S no).2
def sQ (C:bA) (l:Int):Bool:=decide (0<=l/\l<C.lines)
def nD (n:Nat) (S:Nat->List Th) (l a:Int) (w:Bool):Bool:=decide ((aQ n S l).2=0)&&decide ((aQ n S l).1.w=a)&&lN (aQ n S l).1.st w
def rX (C:bA) (S:Nat->List Th) (l at' a:Int) (w:Bool):Int:=
 if sQ C l=false then 10 else if at'<0 then 10 else if at'>=2 then 10 else if nD C.aF.toNat S l a w=false then 16 else 0
def pH (C:bA) (s:eM) (l at' a:Int):eM:=if rX C s.S l at' a false=0 then {s with S:=Af C.aF.toNat C.ways.toNat s.S l} else s
def c9 (d:Ln) (at' v:Int):Ln:=if at'=0 then(v,d.2) else(d.1,v)
def Sg (n:Nat) (S:Nat->List Th) (l at' v:Int):vT:=⟨4,(aQ n S l).1.w,c9 (aQ n S l).1.d at' v⟩
def nV (C:bA) (s:eM) (l at' a v:Int):eM:=if rX C s.S l at' a true=0 then {s with S:=(kR C.aF.toNat C.ways.toNat s.S l (Sg C.aF.toNat s.S l at' v)).1} else s
def Bd (s:eM):Prop:=∀i,(s.S i).length<=4
theorem y4 (hC:C.Ok):0<C.aF.toNat/\C.aF.toNat<=8/\0<C.ways.toNat/\C.ways.toNat<=4:=by unfold bA.Ok at hC;omega
theorem sY {S:Nat->List Th} {l at' e:Int} {w:Bool} (h:rX C S l at' e w=0):(0<=l/\l<C.lines)/\(at'=0\/at'=1)/\(aQ C.aF.toNat S l).2=0/\lN (aQ C.aF.toNat S l).1.st w=true:=by
 unfold rX at h;split at h;omega;split at h;omega;split at h;omega;split at h;omega;rename_i a f g c;have a:sQ C l=true:=by simpa using a
 have c:nD C.aF.toNat S l e w=true:=by simpa using c
 unfold sQ at a;unfold nD at c;grind
def Uw (core:Int) (s:eM) (l w:Int) (wr:Bool) (ns:List aH):eM×List aH×Int:=
 ({s with al:=l,aw:=wr,xF:=true},ns++[⟨if wr then 2 else 1,core,l,w,0,0,0,false,0⟩],0)
def Um (C:bA) (core:Int) (s:eM) (l w:Int) (wr:Bool):eM×List aH×Int:=
 match Dt C.aF.toNat C.ways.toNat s.S l with
 |none=>Uw core s l w wr []
 |some v=>
  if s.wN then(s,[],11) else
  if(aQ C.aF.toNat s.S v.1).2≠0 then({s with S:=fR C.aF.toNat s.S v.1},[],(aQ C.aF.toNat s.S v.1).2) else
  Uw core {s with S:=fR C.aF.toNat s.S v.1,gl:=v.1,gc:=(aQ C.aF.toNat s.S v.1).1,wN:=true} l w wr
   [⟨3,core,v.1,(aQ C.aF.toNat s.S v.1).1.w,0,(aQ C.aF.toNat s.S v.1).1.d.1,(aQ C.aF.toNat s.S v.1).1.d.2,xS (aQ C.aF.toNat s.S v.1).1.st,0⟩]
def want (C:bA) (core:Int) (s:eM) (l w:Int) (wr:Bool):eM×List aH×Int:=
 if sQ C l=false then(s,[],10) else if s.xF then(s,[],17) else if s.wN=true/\s.gl=l then(s,[],16) else
 if(aQ C.aF.toNat s.S l).2=0/\lN (aQ C.aF.toNat s.S l).1.st wr=true then(s,[],13) else Um C core s l w wr
abbrev Tk:=eM×List aH×Int
def nT (C:bA) (s:eM) (n:aH):vT:=⟨n.state,n.world,if(aQ C.aF.toNat s.S n.line).2=0 then(aQ C.aF.toNat s.S n.line).1.d else(n.d0,n.d1)⟩
def Me (C:bA) (core:Int) (s:eM) (n:aH):Tk:=
 if s.xF=false then(s,[],16) else if s.al≠n.line then(s,[],16) else
 if(kR C.aF.toNat C.ways.toNat s.S n.line (nT C s n)).2≠0 then({s with S:=(kR C.aF.toNat C.ways.toNat s.S n.line (nT C s n)).1},[],(kR C.aF.toNat C.ways.toNat s.S n.line (nT C s n)).2) else
 ({s with S:=(kR C.aF.toNat C.ways.toNat s.S n.line (nT C s n)).1,al:=0,aw:=false,xF:=false},[⟨4,core,n.line,0,0,0,0,false,0⟩],0)
def Tl (s:eM) (n:aH):Tk:=if s.xF=false then(s,[],16) else if s.al≠n.line then(s,[],16) else({s with al:=0,aw:=false,xF:=false},[],0)
def Du (s:eM) (n:aH):Tk:=if s.wN=false then(s,[],12) else if s.gl≠n.line then(s,[],12) else({s with gl:=0,gc:=vT.zero,wN:=false},[],0)
def jF (core:Int) (n:aH) (x:vT):aH:=if Y2 x.st then⟨5,core,n.line,0,gK x.st n.state,x.d.1,x.d.2,xS x.st,0⟩ else⟨5,core,n.line,0,gK x.st n.state,0,0,false,0⟩
def Ff (C:bA) (core:Int) (s:eM) (n:aH):Tk:=
 if n.state≠1/\n.state≠0 then(s,[],10) else
 if(aQ C.aF.toNat s.S n.line).2=0 then
  ({s with S:=if gK (aQ C.aF.toNat s.S n.line).1.st n.state=0 then fR C.aF.toNat s.S n.line else(kR C.aF.toNat C.ways.toNat s.S n.line {(aQ C.aF.toNat s.S n.line).1 with st:=gK (aQ C.aF.toNat s.S n.line).1.st n.state}).1},[jF core n (aQ C.aF.toNat s.S n.line).1],0)
 else if s.wN=false then(s,[⟨5,core,n.line,0,0,0,0,false,0⟩],0) else if s.gl≠n.line then(s,[⟨5,core,n.line,0,0,0,0,false,0⟩],0) else
  ({s with gc:={s.gc with st:=gK s.gc.st n.state}},[jF core n s.gc],0)
def mU (C:bA) (core:Int) (s:eM) (n:aH):Tk:=
 if n.kind=8 then(if sQ C n.line=false then(s,[],10) else Me C core s n)
 else if n.kind=9 then(if sQ C n.line=false then(s,[],10) else Tl s n)
 else if n.kind=10 then(if sQ C n.line=false then(s,[],10) else Du s n)
 else if n.kind=11 then(if sQ C n.line=false then(s,[],10) else Ff C core s n)
 else(s,[],15)
theorem pK {no:Int} {l:List Th}:(rem no l).Sublist l:=by
 induction l with
 |nil=>exact List.Sublist.refl _
 |cons t l a=>
  simp only[rem];grind
theorem Db {no:Int} {l:List Th} (h:(l.map (·.1)).Nodup):no∉(rem no l).map (·.1):=by
 induction l with
 |nil=>simp[rem]
 |cons t l a=>
  simp only[List.map_cons,List.nodup_cons] at h;simp only[rem];grind
theorem get_mem {no:Int} {l:List Th} {x:vT} (h:get no l=some x):(no,x)∈l:=by
 unfold Go.Ct.get at h;cases hf:l.find? (fun t=>decide (t.1=no)) with
 |none=>rw[hf] at h;cases h
 |some t=>
  grind
theorem Ul {no:Int} {l:List Th} (h:no∉l.map (·.1)):get no l=none:=by
 unfold Go.Ct.get;grind
theorem Zd {no:Int} {l:List Th} {x:vT} (h:no∉l.map (·.1)):get no (l++[(no,x)])=some x:=by
 have a:=Ul h;unfold Go.Ct.get at a ⊢;grind
structure jL (ways:Nat) (l:List Th):Prop where
 len:l.length<=ways
 st:∀t∈l,1<=t.2.st/\t.2.st<=4
 nd:(l.map (·.1)).Nodup
theorem jL.rem {ways:Nat} {l:List Th} {no:Int} (h:jL ways l):jL ways (Go.Ct.rem no l):=
 ⟨Nat.le_trans pK.length_le h.len,fun t a=>h.st t (pK.mem a),(pK.map _).nodup h.nd⟩
theorem jL.app {ways:Nat} {l:List Th} {no:Int} {x:vT} (h:jL ways l) (c:l.length<ways) (f:1<=x.st/\x.st<=4) (e:no∉l.map (·.1)):jL ways (l++[(no,x)]):=
 ⟨by simp;omega,fun t a=>by
  rcases List.mem_append.1 a with h1|h1;exact h.st t h1;grind,by
  rw[List.map_append,List.nodup_append];refine⟨h.nd,by simp,?_⟩;grind⟩
def Pl (n:Nat) (S:Nat->List Th):Prop:=∀i t,t∈S i->0<=t.1/\setOf n t.1=i
theorem vZ {n:Nat} {S:Nat->List Th} {no:Int} (h:Pl n S):Pl n (fR n S no):=by
 intro i t a;unfold fR at a;split at a;exact h i t a;unfold aI at a;split at a;rename_i e;subst e;exact h _ t (pK.mem a);exact h i t a
theorem Et {n ways:Nat} {S:Nat->List Th} {no:Int} {x:vT} (c:0<=no) (h:Pl n S):Pl n (kR n ways S no x).1:=by
 intro i t a;unfold kR at a;split at a;unfold aI at a;dsimp only at a;split at a;rename_i e;subst e;exact h _ t (pK.mem a);exact h i t a;unfold aI at a;dsimp only at a;split at a;rename_i e;subst e;rcases List.mem_append.1 a with h1|h1;exact h _ t (pK.mem h1);grind;exact h i t a
structure Good (n ways:Nat) (s:eM):Prop where
 aF:∀i,jL ways (s.S i)
 back:s.wN=true->0<=s.gc.st/\s.gc.st<=4
 pl:Pl n s.S
theorem kW {no:Int} (h:∀i,jL ways (S i)):∀i,jL ways (fR n S no i):=by
 intro i;unfold fR;split;exact h i;unfold aI;split;exact(h _).rem;exact h i
theorem uY {no:Int} {x:vT} (a:1<=x.st/\x.st<=4) (h:∀i,jL ways (S i)):∀i,jL ways ((kR n ways S no x).1 i):=by
 intro i;unfold kR;split;unfold aI;dsimp only;split;exact(h _).rem;exact h i;rename_i c;unfold aI;dsimp only;split;exact((h (setOf n no)).rem).app (by omega) a (Db (h _).nd);exact h i
theorem pF {l:Int} (h:∀i,jL ways (S i)) (a:(aQ n S l).2=0):1<=(aQ n S l).1.st/\(aQ n S l).1.st<=4:=by
 unfold aQ at a ⊢;split at a;cases a;rename_i c;rw[aCw c];cases hg:get l (S (setOf n l)) with
 |none=>grind
 |some x=>exact(h _).st _ (get_mem hg)
theorem X8 {no:Int} (h:∀i,jL ways (S i)):∀i,jL ways (Af n ways S no i):=by
 intro i;unfold Af;split;rename_i a;exact uY (pF h a) (kW h) i;exact kW h i
theorem en {no:Int} (a:(aQ n S no).2=0):0<=no:=by
 unfold aQ at a;grind
theorem tf {no:Int} (h:Pl n S):Pl n (Af n ways S no):=by
 unfold Af;split;rename_i a;exact Et (en a) (vZ h);exact vZ h
theorem Good.bd (h:Good n ways s) (a:ways<=4):Bd s:=fun i=>Nat.le_trans (h.aF i).len a
theorem Nb:Good n ways eM.new:=⟨fun _=>⟨Nat.zero_le _,(fun _ h=>by cases h),List.nodup_nil⟩,(fun h=>by cases h),fun _ _ h=>by cases h⟩
abbrev gO (C:bA) (s:eM):Prop:=Good C.aF.toNat C.ways.toNat s
theorem Wr {l w:Int} {wr:Bool} (h:gO C s):gO C (want C core s l w wr).1:=by
 unfold want;split;exact h;split;exact h;split;exact h;split;exact h;unfold Um;split;exact⟨h.aF,h.back,h.pl⟩;split;exact h;split;exact⟨kW h.aF,h.back,vZ h.pl⟩;rename_i v _ _ a;have a:(aQ C.aF.toNat s.S v.1).2=0:=by simpa using a
 exact⟨kW h.aF,fun _=>(by have:=pF (n:=C.aF.toNat) h.aF a;exact⟨by show 0<=(aQ C.aF.toNat s.S v.1).1.st;omega,this.2⟩),vZ h.pl⟩
theorem uC {x to:Int} (a:0<=x/\x<=4):0<=gK x to/\gK x to<=4:=by
 unfold gK Ky;grind
theorem Iv {a:aH} (i:a.kind=8->1<=a.state/\a.state<=4) (h:gO C s):gO C (mU C core s a).1:=by
 unfold mU;split;rename_i f;split;exact h;rename_i k;have c:0<=a.line:=(of_decide_eq_true (by simpa using k:sQ C a.line=true)).1;unfold Me;split;exact h;split;exact h;split;exact⟨uY (i f) h.aF,h.back,Et c h.pl⟩;exact⟨uY (i f) h.aF,h.back,Et c h.pl⟩
 .split;split;exact h;unfold Tl;split;exact h;split;exact h;exact⟨h.aF,h.back,h.pl⟩
  .split;split;exact h;unfold Du;split;exact h;split;exact h;exact⟨h.aF,(fun e=>by cases e),h.pl⟩
   .split
    .split;exact h
     .unfold Ff;split;exact h
      .split
       .rename_i g;have c:=en g;have t:=pF (n:=C.aF.toNat) h.aF g;refine⟨?_,h.back,?_⟩;rotate_left;dsimp only;split;exact vZ h.pl;exact Et c h.pl;dsimp only;split;exact kW h.aF;rename_i q;exact uY (by have:=uC (x:=(aQ C.aF.toNat s.S a.line).1.st) (to:=a.state) (by omega);dsimp only;omega) h.aF
       split;exact h;split;exact h;rename_i j _;exact⟨h.aF,(fun _=>uC (h.back (by simpa using j))),h.pl⟩
    exact h
theorem Ib {l a c:Int} (h:gO C s):gO C (pH C s l a c):=by
 unfold pH;split;exact⟨X8 h.aF,h.back,tf h.pl⟩;exact h
theorem E0 {l a e v:Int} (h:gO C s):gO C (nV C s l a e v):=by
 unfold nV;split;rename_i c;exact⟨uY (by simp[Sg]) h.aF,h.back,Et (sY c).1.1 h.pl⟩;exact h
end
end Go.Ct
namespace Go.Nt
open Go Go.Ab Go.Hm
section
def Sj:List (List UInt8×Int×List Int):=[
 ([],0,[0,0,0,0,0,0,0]),
  ([103,101,116,115],0,[1,2,3,0,0,0,0]),
  ([103,101,116,109],0,[1,2,3,0,0,0,0]),
  ([112,117,116],0,[1,2,4,8,9,10,0]),
  ([100,111,110,101],1,[1,2,0,0,0,0,0]),
  ([114,101,112,108,121],1,[1,2,5,8,9,10,11]),
  ([119,97,108,107],0,[1,12,0,0,0,0,0]),
  ([100,114,111,112,112,101,100],1,[1,13,0,0,0,0,0]),
  ([103,114,97,110,116],2,[1,2,4,6,8,9,0]),
  ([110,97,99,107],2,[1,2,11,0,0,0,0]),
  ([112,117,116,97,99,107],2,[1,2,0,0,0,0,0]),
  ([112,114,111,98,101],3,[1,2,7,0,0,0,0]),
  ([119,97,108,107,101,100],2,[1,8,9,12,0,0,0]),
  ([100,114,111,112],3,[1,13,0,0,0,0,0])]
def pw (r:List UInt8×Int×List Int):List Value:= .string ⟨r.1.toArray⟩::I r.2.1::r.2.2.map I
def dc:List Value:=Sj.flatMap pw
def aB2 (k:Nat):List Int:=(Sj.getD k ([],0,[])).2.2
def Ut (k:Nat):Int:=(Sj.getD k ([],0,[])).2.1
def ws (arr:List Int):Nat->Nat->List Int
 |0,_=>[]
 |f+1,i=>if arr.getD i 0=0 then [] else arr.getD i 0::ws arr f (i+1)
def Ya (k:Nat):List Int:=ws (aB2 k) 7 0
theorem k14 {k:Nat} (h:k<14):k=0\/k=1\/k=2\/k=3\/k=4\/k=5\/k=6\/k=7\/k=8\/k=9\/k=10\/k=11\/k=12\/k=13:=by omega
theorem f13 {f:Int} (h:1<=f/\f<=13):f=1\/f=2\/f=3\/f=4\/f=5\/f=6\/f=7\/f=8\/f=9\/f=10\/f=11\/f=12\/f=13:=by omega
def nf (k:Int):Prop:=1<=k/\k<14
instance (k:Int):Decidable (nf k):=by unfold nf;infer_instance
def yv (n:aH) (f:Int):Int:=
 if f=1 then n.core else if f=2 then n.line else if f=3\/f=4 then n.world else if f=5\/f=6\/f=7 then n.state else if f=8 then n.d0 else if f=9 then n.d1
 else if f=10 then(if n.gC=true then 1 else 0) else n.no
def aAp (n:aH) (f v:Int):aH:=
 if f=1 then {n with core:=v} else if f=2 then {n with line:=v} else if f=3\/f=4 then {n with world:=v} else if f=5\/f=6\/f=7 then {n with state:=v} else if f=8 then {n with d0:=v} else if f=9 then {n with d1:=v}
 else if f=10 then {n with gC:=decide (v≠0)} else {n with no:=v}
def tk (C:bA) (f v:Int):Prop:=
 if f=1 then 0<=v/\v<C.aD else if f=2 then 0<=v/\v<C.lines else if f=3 then 0<=v/\v<=3 else if f=4 then 0<=v/\v<=4 else if f=5 then 0<=v/\v<=4
 else if f=6 then v=1\/v=2\/v=4 else if f=7 then v=0\/v=1 else if f=10\/f=11 then v=0\/v=1 else if f=12 then 0<=v/\v<20 else if f=13 then 0<=v/\v<C.aG else True
instance (C:bA) (f v:Int):Decidable (tk C f v):=by unfold tk;infer_instance
def E7 (C:bA) (n:aH):List Int->aH->Bool×aH
 |[],a=>(true,a)
 |f::c,a=>if tk C f (yv n f) then E7 C n c (aAp a f (yv n f)) else(false,a)
def q7 (k:Int):aH:={aH.zero with kind:=k}
def oU (C:bA) (n:aH):Int:=
 if nf n.kind then(if C.Ok then(if(E7 C n (Ya n.kind.toNat) (q7 n.kind)).1=true/\(E7 C n (Ya n.kind.toNat) (q7 n.kind)).2=n then 0 else 10) else 10) else 15
end
end Go.Nt
namespace Go.Mc
open Go Go.Ab Go.Hm Go.At Go.Is Go.Ct Go.Nt
section
structure dT where
 owner:Int
 locked:Bool
 deriving DecidableEq
def dT.enc (x:dT):List Value:=[I x.owner,.bool x.locked]
def gA:dT:=⟨0,false⟩
def iP (n g:Int):Int:=(n+3)/4+g
def Y4 (x:dT):Int:=if x.locked then x.owner+8 else x.owner
def Ki (es:List dT) (j:Nat):Bool:=((es.drop (4*j)).take 4).all fun x=>decide (x=⟨(es.getD (4*j) gA).owner,false⟩)
def p6 (es:List dT) (j:Nat):Int:=if Ki es j then 4*(es.getD (4*j) gA).owner else 4*iP es.length (4*j:Nat)+1
def uP (es:List dT):List Int:=(List.range ((es.length+3)/4)).map (p6 es)++es.map Y4
def iX (es:List dT) (at':Int):Int×Int:=if 0<=at'/\at'<(uP es).length then((uP es).getD at'.toNat 0,0) else(0,10)
def E3 (o:Int):Bool:=decide (0<=o/\o<=4)
def gY (n g at' word:Int):Int×dT×Bool×Int:=
 if ¬((1<=n/\n<=16)/\(0<=g/\g<n)) then(0,gA,false,10)
 else if at'=g/4 then
  if word=4*iP n (g/4*4)+1 then(iP n g,gA,false,0)
  else if word % 4=0/\E3 (word/4)=true then(0,⟨word/4,false⟩,true,0)
  else(0,gA,false,14)
 else if at'=iP n g then
  if E3 word=true then(0,⟨word,false⟩,true,0)
  else if 8<=word/\E3 (word - 8)=true then(0,⟨word - 8,true⟩,true,0)
  else(0,gA,false,14)
 else(0,gA,false,10)
structure iR where
 gS:Bool
 bL:Int
 at':Int
 pP:Bool
 known:List (Int×Int)
def By:iR:=⟨false,0,0,false,[]⟩
def iL (x:Int×Int):List Value:=[I x.1,I x.2]
def rU (l:List (Int×Int)) (g:Int):Option Int:=(l.find? fun x=>decide (x.1=g)).map (·.2)
def iR.ask (c:iR) (C:bA) (world g:Int):Int×Int:=
 if(0<=g/\g<C.aG)/\(0<=world/\world<=3) then
  match rU c.known g with
  |none=>(3,0)
  |some o=>if Hh world o then(1,0) else(2,0)
 else(0,10)
def iR.start (c:iR) (g:Int):iR:={c with gS:=true,bL:=g,at':=g/4,pP:=false}
def iR.begin (c:iR) (C:bA) (g:Int):iR×Int×Int:=
 if ¬(0<=g/\g<C.aG) then(c,0,10)
 else if(rU c.known g).isSome then(c,0,13)
 else if c.gS then(c,0,16)
 else(c.start g,g/4,0)
def iR.Fp (c:iR) (C:bA) (f:Int×Int):iR:={c with known:=(if(c.known.length:Int)>=C.entries then c.known.drop 1 else c.known)++[f]}
def iR.goto (c:iR) (a:Int):iR:={c with at':=a}
def iR.fresh (c:iR):iR:={c with pP:=false,at':=c.bL/4}
def iR.done (c:iR):iR:={c with gS:=false,bL:=0,at':=0,pP:=false}
def iR.walked (c:iR) (C:bA) (at' word:Int):iR×Int×Bool×Int:=
 if c.gS=false then(c,0,false,16)
 else if at'≠c.at' then(c,0,false,1)
 else if c.pP then(c.fresh,c.bL/4,false,0)
 else
  let r:=gY C.aG c.bL at' word
  if r.2.2.2≠0 then(c,0,false,r.2.2.2)
  else if r.2.2.1=true/\r.2.1.locked=true then(c.goto (c.bL/4),c.bL/4,false,0)
  else if r.2.2.1=false then(c.goto r.1,r.1,false,0)
  else((c.Fp C (c.bL,r.2.1.owner)).done,0,true,0)
def iR.drop (c:iR) (C:bA) (g:Int):iR×Int:=
 if g< -1\/g>=C.aG then(c,10)
 else({c with known:=c.known.filter (fun x=> !decide (g= -1\/x.1=g)),pP:=c.pP||(c.gS&&decide (g= -1\/c.bL=g))},0)
structure iK where
 core:Int
 world:Int
 call:Int
 bL:Int
 to:Int
 then':Int
 jY:Bool
 phase:Int
 waits:Nat->Bool
def iK.enc (r:iK):List Value:=[I r.core,I r.world,I r.call,I r.bL,I r.to,I r.then',.bool r.jY,I r.phase,.bool (r.waits 0),.bool (r.waits 1),.bool (r.waits 2),.bool (r.waits 3)]
structure Mon where
 bX:List dT
 runs:Nat->Option iK
def Mon.mZ (m:Mon) (g:Nat) (x:dT):Mon:={m with bX:=m.bX.set g x}
def Mon.dE (m:Mon) (g:Nat) (x:Option iK):Mon:={m with runs:=aI m.runs g x}
def Mon.has (m:Mon) (g:Int):Prop:=0<=g/\g<m.bX.length
instance (m:Mon) (g:Int):Decidable (m.has g):=by unfold Mon.has;infer_instance
def Mon.kP (m:Mon) (g:Int):dT:=m.bX.getD g.toNat gA
def Mon.run (m:Mon) (g:Int):Option iK:=if 0<=g then m.runs g.toNat else none
def Mon.phase (m:Mon) (g:Int):Int:=match m.run g with
 |some r=>r.phase
 |none=>0
def Mon.running (m:Mon):List Nat:=(List.range 16).filter fun g=>(m.runs g).isSome
def Mon.qX (m:Mon) (core:Int) (g:Nat):Bool:=match m.runs g with
 |some r=>decide (r.core=core)
 |none=>false
def Mon.calls (m:Mon) (core:Int):Bool:=m.running.any (m.qX core)
structure Ask where
 core:Int
 world:Int
 call:Int
 bL:Int
 to:Int
def Ask.enc (a:Ask):List Value:=[I a.core,I a.world,I a.call,I a.bL,I a.to]
def Ask.run (a:Ask) (aD:Int) (j:Int×Bool×Int):iK:=⟨a.core,a.world,a.call,a.bL,a.to,j.1,j.2.1,1,fun i=>decide ((i:Int)<aD)⟩
def Mon.call (m:Mon) (aD:Int) (a:Ask):Mon×Bool×Int:=
 if ¬(0<=a.core/\a.core<aD) then(m,false,1)
 else if ¬m.has a.bL then(m,false,10)
 else if m.phase a.bL≠0 then(m,false,17)
 else if m.calls a.core then(m,false,13)
 else
  let j:=hQ a.call a.world (m.kP a.bL).owner a.to
  if j.2.2≠0 then(m,false,j.2.2)
  else((m.mZ a.bL.toNat ⟨(m.kP a.bL).owner,true⟩).dE a.bL.toNat (some (a.run aD j)),true,0)
def iK.none (r:iK):Bool:= !(r.waits 0||r.waits 1||r.waits 2||r.waits 3)
def iK.heard (r:iK) (core:Int):iK:={r with waits:=fO r.waits core false}
def iK.mC (r:iK):iK:={r with phase:=if r.none then 2 else r.phase}
def Mon.dropped (m:Mon) (aD g core:Int):Mon×Bool×Int:=
 if ¬m.has g then(m,false,10)
 else match m.run g with
  |none=>(m,false,16)
  |some r=>
   if r.phase≠1 then(m,false,16)
   else if ¬(0<=core/\core<aD)\/r.waits core.toNat=false then(m,false,12)
   else(m.dE g.toNat (some (r.heard core).mC),(r.heard core).none,0)
def Mon.over (m:Mon) (g:Int):Mon×Option iK×Int:=
 if ¬m.has g then(m,none,10)
 else match m.run g with
  |none=>(m,none,16)
  |some r=>
   if r.phase≠2 then(m,none,16)
   else((m.mZ r.bL.toNat ⟨r.then',false⟩).dE g.toNat none,some r,0)
def aJ.next? (s:aJ):Option Ins:=if s.over then none else some (yJ s.prog s.at')
def aJ.ev (s:aJ) (i:Nat) (x:Ins) (word value code:Int):Ev:=⟨i,s.at',x.op,s.world,word,value,code⟩
def aJ.step (s:aJ) (a:Int):aJ:=s.eY a
def aJ.oG (s:aJ) (i:Nat):Option (aJ×Ev):=
 match aJ.next? s with
 |none=>none
 |some x=>
  if x.op=1 then some ((s.dE x.a x.b).eY (s.at'+1),aJ.ev s i x 0 x.b 0)
  else if x.op=2 then some ((s.dE x.a (wr (s.dA x.b.toNat+s.dA x.c.toNat))).eY (s.at'+1),aJ.ev s i x 0 (wr (s.dA x.b.toNat+s.dA x.c.toNat)) 0)
  else if x.op=6 then some (s.eY (s.at'+1),aJ.ev s i x 0 0 0)
  else if x.op=7 then(if s.world=0 then some ((s.wx x.a).eY (s.at'+1),aJ.ev s i x 0 x.a 0) else some (s.eY (s.at'+1),aJ.ev s i x 0 x.a 18))
  else if x.op=9 then some (s.eY x.a,aJ.ev s i x 0 x.a 0)
  else if x.op=10 then some (s.eY (if s.dA x.a.toNat=0 then x.b else s.at'+1),aJ.ev s i x 0 (s.dA x.a.toNat) 0)
  else none
def Vp (op:Int):Bool:=decide (op=3\/op=4\/op=5)
structure Acc where
 word:Int
 write:Bool
 read:Bool
 value:Int
def aJ.sO (s:aJ):Option Acc:=
 match aJ.next? s with
 |none=>none
 |some x=>if Vp x.op then some ⟨s.dA x.b.toNat,decide (x.op≠3),decide (x.op≠4),if x.op=3 then 0 else s.dA x.a.toNat⟩ else none
def aJ.C2 (s:aJ) (i:Nat):Option Ask:=
 match aJ.next? s with
 |none=>none
 |some x=>if x.op=8 then some ⟨i,s.world,x.a,s.dA x.b.toNat,s.dA x.c.toNat⟩ else none
def aJ.aY (s:aJ) (i:Nat) (value code:Int):aJ×Ev×Int:=
 match aJ.next? s with
 |none=>(s,yx,16)
 |some x=>
  if x.op=8 then((s.dE x.b code).eY (s.at'+1),aJ.ev s i x (s.dA x.b.toNat) (s.dA x.c.toNat) code,0)
  else if Vp x.op then
   if code≠0/\code≠19 then(s,yx,1)
   else if code=19 then(s.eY (s.at'+1),aJ.ev s i x (s.dA x.b.toNat) 0 19,0)
   else if x.op=4 then(s.eY (s.at'+1),aJ.ev s i x (s.dA x.b.toNat) (s.dA x.a.toNat) 0,0)
   else((s.dE x.a value).eY (s.at'+1),aJ.ev s i x (s.dA x.b.toNat) value 0,0)
  else(s,yx,16)
abbrev gJ:=Nat->Nat->List aH
def xB (n:aH):Nat:=(Ut n.kind.toNat).toNat
def gJ.set (F:gJ) (c w:Nat) (l:List aH):gJ:=fun a e=>if a=c/\e=w then l else F a e
def gJ.put (F:gJ) (n:aH):gJ:=F.set n.core.toNat (xB n) (F n.core.toNat (xB n)++[n])
def gJ.Hu (d:Int):gJ->List aH->Option gJ
 |F,[]=>some F
 |F,n::l=>if((F n.core.toNat (xB n)).length:Int)<d then gJ.Hu d (F.put n) l else none
def dN (C:bA):List aH->Int
 |[]=>0
 |n::l=>if oU C n≠0 then oU C n else dN C l
def gJ.send (C:bA) (F:gJ) (l:List aH):gJ×Int:=
 if dN C l≠0 then(F,dN C l) else match gJ.Hu C.depth F l with
  |some a=>(a,0)
  |none=>(F,11)
def gJ.take (C:bA) (F:gJ) (core a c:Int):gJ×aH×Int:=
 if ¬((0<=core/\core<C.aD)/\(0<=a/\a<4)) then(F,aH.zero,10)
 else
  let l:=F core.toNat a.toNat
  if l=[] then(F,aH.zero,12)
  else
   let i:=(c % (l.length:Int)).toNat
   (F.set core.toNat a.toNat (l.eraseIdx i),l.getD i aH.zero,0)
structure bY where
 aB:Nat->aJ
 dB:Nat->eM
 dN:Nat->iR
 home:kO
 bC:Mon
 jS:gJ
 log:List Ev
abbrev bY.oS (M:bY) (i:Nat) (s:aJ):bY:={M with aB:=aI M.aB i s}
abbrev bY.Hj (M:bY) (i:Nat) (s:eM):bY:={M with dB:=aI M.dB i s}
abbrev bY.Mm (M:bY) (i:Nat) (s:iR):bY:={M with dN:=aI M.dN i s}
abbrev bY.Ao (M:bY) (h:kO):bY:={M with home:=h}
abbrev bY.kY (M:bY) (m:Mon):bY:={M with bC:=m}
abbrev bY.gZ (M:bY) (l:gJ):bY:={M with jS:=l}
abbrev bY.Rs (M:bY) (v:Ev):bY:={M with log:=M.log++[v]}
def iJ (kind:Int) (core:Int) (no:Int):aH:={aH.zero with kind:=kind,core:=core,no:=no}
def zT (core word no:Int):aH:={iJ 12 core no with d0:=word}
variable (C:bA)
def bY.waits (M:bY) (i:Int):Bool:=M.bC.calls i
def bY.aY (M:bY) (i:Nat) (value code:Int):bY×Int:=
 let r:=aJ.aY (M.aB i) i value code
 if r.2.2≠0 then(M,r.2.2) else((M.oS i r.1).Rs r.2.1,0)
def tX (aD g:Int):List aH:=(List.range aD.toNat).map fun i:Nat=>iJ 13 i g
def bY.call (M:bY) (i:Nat) (a:Ask):bY×Int:=
 let r:=M.bC.call C.aD a
 if r.2.2≠0 then M.aY i 0 r.2.2
 else
  let s:=M.jS.send C (tX C.aD a.bL)
  if s.2≠0 then(M,s.2) else((M.gZ s.1).kY r.1,0)
def bY.walk (M:bY) (i:Nat) (g:Int):bY×Int:=
 let r:=(M.dN i).begin C g
 if r.2.2≠0 then(M,r.2.2)
 else
  let s:=M.jS.send C [iJ 6 i r.2.1]
  if s.2≠0 then(M,s.2) else((M.gZ s.1).Mm i r.1,0)
def bY.want (M:bY) (i:Nat) (line:Int) (write:Bool):bY×Int:=
 let r:=Ct.want C i (M.dB i) line (M.aB i).world write
 if r.2.2≠0 then(M,r.2.2)
 else
  let s:=M.jS.send C r.2.1
  if s.2≠0 then(M,s.2) else((M.gZ s.1).Hj i r.1,0)
def bY.known (M:bY) (i:Nat) (g:Int):Int:=(rU (M.dN i).known g).getD 0
def aA5 (d:Ln) (a:Int):Int:=if a=0 then d.1 else d.2
def Dn (c:eM) (l a:Int):Int:=aA5 (aQ C.aF.toNat c.S l).1.d a
def bY.sX (M:bY) (i:Nat) (line at' owner:Int) (a:Acc):bY×Int:=
 let c:=if a.read then pH C (M.dB i) line at' owner else M.dB i
 let c2:=if a.write then nV C c line at' owner a.value else c
 (M.Hj i c2).aY i (if a.read then Dn C (M.dB i) line at' else 0) 0
def bY.access (M:bY) (i:Nat) (a:Acc):bY×Int:=
 if ¬(0<=a.word/\a.word<C.lines*2) then M.aY i 0 19
 else
  let line:=a.word/2
  let g:=line/2
  let r:=(M.dN i).ask C (M.aB i).world g
  if r.2≠0 then(M,r.2)
  else if r.1=3 then M.walk C i g
  else if r.1=2 then M.aY i 0 19
  else if nD C.aF.toNat (M.dB i).S line (M.known i g) a.write=false then M.want C i line a.write
  else M.sX C i line (a.word % 2) (M.known i g) a
def bY.step (M:bY) (A:Int):bY×Int:=
 if ¬(0<=A/\A<C.aD) then(M,10)
 else
  let i:=A.toNat
  if(M.aB i).over then(M,20)
  else if M.waits A then(M,16)
  else match aJ.oG (M.aB i) i with
   |some r=>((M.oS i r.1).Rs r.2,0)
   |none=>match aJ.C2 (M.aB i) i with
    |some a=>M.call C i a
    |none=>match aJ.sO (M.aB i) with
     |some a=>M.access C i a
     |none=>(M,16)
def Fi (H:kO) (g:Int):kO:=(nR C (nR C H (g*2)).1 (g*2+1)).1
def bY.hU (M:bY) (n:aH):bY×List aH×Int:=
 if n.kind=1\/n.kind=2\/n.kind=3\/n.kind=4\/n.kind=5 then
  let r:=jX C M.home n
  (M.Ao r.1,r.2.1,r.2.2)
 else if n.kind=8\/n.kind=9\/n.kind=10\/n.kind=11 then
  let r:=mU C n.core (M.dB n.core.toNat) n
  (M.Hj n.core.toNat r.1,r.2.1,r.2.2)
 else if n.kind=6 then
  let r:=iX M.bC.bX n.no
  (M,[zT n.core r.1 n.no],r.2)
 else if n.kind=12 then
  let r:=(M.dN n.core.toNat).walked C n.no n.d0
  (M.Mm n.core.toNat r.1,if r.2.2.1 then [] else [iJ 6 n.core r.2.1],r.2.2.2)
 else if n.kind=13 then
  let r:=(M.dN n.core.toNat).drop C n.no
  (M.Mm n.core.toNat r.1,[iJ 7 n.core n.no],r.2)
 else if n.kind=7 then
  let r:=M.bC.dropped C.aD n.no n.core
  (if r.2.1 then(M.kY r.1).Ao (Fi C M.home n.no) else M.kY r.1,[],r.2.2)
 else(M,[],15)
def bY.vI (M:bY) (A B D:Int):bY×Int:=
 let t:=M.jS.take C A B D
 if t.2.2≠0 then(M,t.2.2)
 else
  let r:=M.hU C t.2.1
  if r.2.2≠0 then(M,r.2.2)
  else
   let s:=t.1.send C r.2.1
   if s.2≠0 then(M,s.2) else(r.1.gZ s.1,0)
def bY.H8 (M:bY) (line:Int) (world:Int):Int×Bool:=
 if C.has line then((M.bC.kP (line/2)).owner,!(M.bC.kP (line/2)).locked&&Hh world (M.bC.kP (line/2)).owner) else(0,false)
def bY.begin (M:bY) (A:Int):bY×Int:=
 let r:=kK C M.home A (M.H8 C A)
 if r.2.2≠0 then(M,r.2.2)
 else
  let s:=M.jS.send C r.2.1
  if s.2≠0 then(M,s.2) else((M.gZ s.1).Ao r.1,0)
def Row.Gt (r:Row):Int:=(if r.busy=true/\r.served.kind=0 then 1 else 0)+((r.waits.filter fun n=>decide (n.kind=0)).length:Int)
def vY (H:kO) (l:Int):Int:=if C.has l then Row.Gt (H l.toNat).1 else 0
def bY.mC (M:bY) (g:Int):Bool:=decide (M.bC.phase g=2)&& !(decide (vY C M.home (g*2)>0))&& !(decide (vY C M.home (g*2+1)>0))
def nY (H:kO) (g:Int):kO:=fun i=>if(i:Int)=g*2\/(i:Int)=g*2+1 then((H i).1,(0,0)) else H i
def bY.finish (M:bY) (A:Int):bY×Int:=
 if ¬(0<=A/\A<C.aG) then(M,10)
 else if M.mC C A=false then(M,16)
 else
  let r:=M.bC.over A
  match r.2.1 with
  |none=>(M,r.2.2)
  |some u=>bY.aY (if u.jY then(M.kY r.1).Ao (nY M.home u.bL) else M.kY r.1) u.core.toNat 0 0
structure Do where
 pX:Int
 a:Int
 b:Int
 c:Int
 deriving DecidableEq
def Do.enc (d:Do):List Value:=[I d.pX,I d.a,I d.b,I d.c]
def bY.P7 (M:bY) (d:Do):bY×Int:=
 if d.pX=0 then M.step C d.a else if d.pX=1 then M.vI C d.a d.b d.c else if d.pX=2 then M.begin C d.a else if d.pX=3 then M.finish C d.a else(M,1)
def bY.runs (M:bY) (l:List Do):bY:=l.foldl (fun M d=>(M.P7 C d).1) M
def bY.notes (M:bY):List aH:=(List.range C.aD.toNat).flatMap fun c=>(List.range 4).flatMap fun w=>M.jS c w
def bY.over (M:bY):Bool:=
 decide (M.notes C=[])&&((List.range C.aD.toNat).all fun i=>(M.aB i).over&& !(M.dB i).xF&& !(M.dN i).gS)&&((List.range C.lines).all fun l=>decide ((M.home l).1.waits=[]))
def bY.ready (M:bY):List Do:=
 ((List.range C.aD.toNat).filter fun i:Nat=> !(M.aB i).over&& !M.waits i).map (fun i:Nat=>(⟨0,i,0,0⟩:Do))++
 ((List.range C.aD.toNat).flatMap fun c=>((List.range 4).filter fun w=>decide (M.jS c w≠[])).map fun w:Nat=>(⟨1,c,w,0⟩:Do))++
 ((List.range C.lines).filter fun l=> !(M.home l).1.busy&&decide ((M.home l).1.waits≠[])).map (fun l:Nat=>(⟨2,l,0,0⟩:Do))++
 ((List.range C.aG.toNat).filter fun g:Nat=>M.mC C g).map fun g:Nat=>(⟨3,g,0,0⟩:Do)
structure MC where
 C:bA
 oK:List (List Ins)
 Z3:List Int
 dU:List Int
 words:List Int
def MC.wM (c:MC):Int:=At.wM c.C c.oK c.Z3 c.dU c.words
def MC.home (c:MC):kO:=fun i=>((kU c.C.lines i).1,At.words iC c.words 0 i)
def MC.new (c:MC):bY where
 aB:=fun i=>nX (c.oK.getD i []) (c.Z3.getD i 0)
 dB:=fun _=>eM.new
 dN:=fun _=>By
 home:=c.home
 bC:=⟨c.dU.map fun o=>⟨o,false⟩,fun _=>none⟩
 jS:=fun _ _=>[]
 log:=[]
end
end Go.Mc
section
open Go Go.Ab
attribute [local irreducible] bB Br ld1 A5 I7 Cd kT yC kI Xx qS zP Bo pT nL mH yV A1 Xb T1 P6 P5 Tb Uj Mx Tc W6 kQ tQ tE iB copyV kV V5 Vo W0 Ed iZ Rp Vn Uz lZ rG Ay yZ Cl C9 Ui qR qH iO eI bS bG
namespace Go.Proofs.YtmhapehobfnoiaaGreatDoor
open Go Go.Ab Go.Hm Go.At Go.Mc
section
instance:Fx dT.enc 2:=⟨fun _=>rfl,fun _=>rfl⟩
set_option maxRecDepth 100000
variable {G:Bg} {h:AH} {L L':List HP} {Q:Value->AH->Prop}
def wQ (t:Nat) (es:List dT):HP:=Bb fun x:Option Addr×Nat=>sp [aR t 0 [.slice x.1 es.length x.2],ls dT.enc 2 52 x.1 x.2 es]
theorem Oj {t:Nat} {es:List dT} (e:Hs G h (wQ t es::L)):∃a c,Hs G h (aR t 0 [.slice a es.length c]::ls dT.enc 2 52 a c es::L):=by
 obtain⟨⟨a,c⟩,e⟩:=e.yS;exact⟨a,c,e.Z0⟩
theorem jP {t:Nat} {es:List dT} {a:Option Addr} {c:Nat} (e:Hs G h (aR t 0 [.slice a es.length c]::ls dT.enc 2 52 a c es::L)):Hs G h (wQ t es::L):=
 Hs.vK (A:=fun x:Option Addr×Nat=>sp [aR t 0 [.slice x.1 es.length x.2],ls dT.enc 2 52 x.1 x.2 es]) (a,c) e.Ve
theorem w7 {es:List dT} {g:Int} (a:0<=g) (h:g<es.length):es[g.toNat]?=some (es.getD g.toNat gA):=by
 simp[List.getD_eq_getElem?_getD,List.getElem?_eq_getElem (show g.toNat<es.length by omega)]
theorem U9 {t:Nat} {es:List dT} {g:Int} (f:Hs G h L) [m:Has (wQ t) L es L']
  (i:∀j,Hs G j (wQ t es::L')->Q (if 0<=g/\g<es.length then .tuple ⟨[.agg ⟨(es.getD g.toNat gA).enc⟩,I 0]⟩ else .tuple ⟨[.agg ⟨gA.enc⟩,I 10]⟩) j):Cl Pr K 55 [pt t 0 0,I g] h Q:=by
 obtain⟨a,c,f⟩:=Oj (m.of f)
 refine cW (fA f fun p h f=>fM (dO (bW (aT (eE (fun k=>?_) (fun k=>?_))))))
 .rw[aaa] at i;refine cQ (c:=gA.enc) rfl (ap f fun h f=>cA f (by decide) (l:=gA.enc) rfl rfl (i _ (jP f.tail)))
 .refine aN (aC (ae t f rfl (bU (jM (eE (fun q=>?_) (fun q=>?_))))))
  .rw[aaa] at i;refine cQ (c:=gA.enc) rfl (ap f fun h f=>cA f (by decide) (l:=gA.enc) rfl rfl (i _ (jP f.tail)))
  .rw[aac] at i;refine aN (aC (ae t f rfl (Ac (l:=es) (a:=a) (c:=c) (enc:=dT.enc) (e:=52) f (by decide) (by omega) (w7 (by omega) (by omega)) (ap f fun h f=>an p f (l:=(es.getD g.toNat gA).enc) rfl rfl (i _ (jP (a:=a) (c:=c) f.to))))))
theorem W8 {t:Nat} {es:List dT} {g:Int} {x:dT} (f:Hs G h L) [m:Has (wQ t) L es L']
  (j:∀k,Hs G k (wQ t (if(0<=g/\g<es.length)/\(0<=x.owner/\x.owner<=4) then es.set g.toNat x else es)::L')->Q (I (if(0<=g/\g<es.length)/\(0<=x.owner/\x.owner<=4) then 0 else 10)) k):Cl Pr K 96 [pt t 0 0,I g,.agg ⟨x.enc⟩] h Q:=by
 obtain⟨a,c,f⟩:=Oj (m.of f)
 refine cW (fZ f fun p h f=>fM (dO (bW (aT (eE (fun q=>?_) (fun q=>?_))))))
 .rw[aaa,aaa] at j;exact j _ (jP f.tail)
 .refine aN (aC (ae t f rfl (bU (jM (eE (fun u=>?_) (fun u=>?_))))))
  .rw[aaa,aaa] at j;exact j _ (jP f.tail)
  .refine aC (ae p f rfl (kr (gM (uK (eE (fun v=>bW (iN f fun r h f=>?_)) (fun v=>?_))))))
   .rw[aac,aac] at j;refine aN (aC (ae t f rfl (an p f (l:=x.enc) rfl rfl (Tw (l:=es) (a:=a) (c:=c) (enc:=dT.enc) (e:=52) (y:=x) f (by decide) (by omega) (by omega) fun h f=>j _ ?_))));have:Hs G h (aR t 0 [.slice a es.length c]::ls dT.enc 2 52 a c (es.set g.toNat x)::L'):=f.to;rw[<-List.length_set (i:=g.toNat) (a:=x)] at this;exact jP this
   .rw[aaa,aaa] at j;exact j _ (jP f.tail)
theorem yI (n:Nat):dS [I 0,.bool false] n=eL dT.enc (List.replicate n gA):=by
 induction n with
 |zero=>rfl
 |succ n a=>rw[List.replicate_succ,lJ,<-a];rfl
theorem Va {n:Int} (k:1<=n/\n<=16) (f:Hs G h L) (j:∀i g,Hs G g (wQ i (List.replicate n.toNat gA)::L)->Q (.tuple ⟨[pt i 0 0,I 0]⟩) g):Cl Pr K 95 [I n] h Q:=by
 refine cW (aT (aab (mY (aab (J2 (by omega) (by omega) (by omega) ?_)))));refine jG (W:=2) (n:=n.toNat) (c:=n.toNat) f (by rw[yI,Gu,List.length_replicate]) rfl (by rw[yI];exact Jv) ?_;intro a h f;refine cQ (c:=[.slice (some a) n.toNat n.toNat]) rfl (fZ f fun p h f=>j _ _ ?_);rw[yI] at f;have e:(List.replicate n.toNat gA).length=n.toNat:=List.length_replicate;refine jP (a:=some a) (c:=n.toNat) ?_;unfold ls;rw[e];exact f
end
end Go.Proofs.YtmhapehobfnoiaaGreatDoor
end
namespace Go.Proofs.YtmhapehobfnoiaaGreatDoor
open Go Go.Ab Go.Hm Go.At Go.Mc
section
set_option maxRecDepth 100000
attribute [local irreducible] bB Br ld1 A5 I7 Cd kT yC kI Xx qS zP Bo pT nL mH yV A1 Xb T1 P6 P5 Tb Uj Mx Tc W6 kQ tQ tE iB copyV kV V5 Vo W0 Ed iZ Rp Vn Uz lZ rG Ay yZ Cl C9 Ui qR qH iO eI bS bG
variable {G:Bg} {h:AH} {L L':List HP} {Q:Value->AH->Prop}
end
end Go.Proofs.YtmhapehobfnoiaaGreatDoor
section
open Go Go.Ab
attribute [local irreducible] bB Br ld1 A5 I7 Cd kT yC kI Xx qS zP Bo pT nL mH yV A1 Xb T1 P6 P5 Tb Uj Mx Tc W6 kQ tQ tE iB copyV kV V5 Vo W0 Ed iZ Rp Vn Uz lZ rG Ay yZ Cl C9 Ui qR qH iO eI bS bG
namespace Go.Proofs.YtmhapehobfnoiaaGreatDoor
open Go Go.Ab Go.Hm Go.At Go.Mc
section
set_option maxRecDepth 100000
variable {G:Bg} {h:AH} {L L':List HP} {Q:Value->AH->Prop}
end
end Go.Proofs.YtmhapehobfnoiaaGreatDoor
end
namespace Go.Ct
open Go Go.Ab
section
def dv (s:Array UInt8) (a b c d:Bool) (x y z:Int):List Value:=[.string ⟨s⟩,.bool a,.bool b,.bool c,.bool d,I x,I y,I z]
def su:List Value:=dv #[73] false false false false 0 0 0++dv #[83] true false false false 0 1 0++dv #[69] true true false true 4 1 0++dv #[79] true false true true 0 3 0++dv #[77] true true true true 4 3 0
end
end Go.Ct
section
open Go Go.Ab
attribute [local irreducible] bB Br ld1 A5 I7 Cd kT yC kI Xx qS zP Bo pT nL mH yV A1 Xb T1 P6 P5 Tb Uj Mx Tc W6 kQ tQ tE iB copyV kV V5 Vo W0 Ed iZ Rp Vn Uz lZ rG Ay yZ Cl C9 Ui qR qH iO eI bS bG
namespace Go.Proofs.YtmhapehobfnoiaaGreatDoor.H
open Go Go.Ab Go.Hm
section
set_option maxRecDepth 100000
variable {G:Bg} {h:AH} {L L':List HP}
def oA (b o:Nat) (r:Row):HP:=fun q=>∃a c,star [aR b o (r.enc a c),fT 9 162 a c (r.waits.length,Gj r.waits)] q
theorem Jj {b o:Nat} {r:Row} (e:Hs G h (oA b o r::L)):∃a c,Hs G h (aR b o (r.enc a c)::fT 9 162 a c (r.waits.length,Gj r.waits)::L):=by
 obtain⟨q,t,⟨a,c,k⟩,g,f,i,j⟩:=e.fst;exact⟨a,c,e.base,e.old,e.wf,e.fr,_,(fD (L:=[_,_])).2 ⟨q,t,k,g,f,rfl⟩,(bP.eP f).2 ⟨i,j⟩⟩
theorem Ez {b o:Nat} (r:Row) {a:Option Addr} {c:Nat} (f:Hs G h (aR b o (r.enc a c)::fT 9 162 a c (r.waits.length,Gj r.waits)::L)):Hs G h (oA b o r::L):=
 Hs.join (A:=[_,_]) f fun _ e=>⟨a,c,e⟩
end
section
set_option maxRecDepth 100000
variable {G:Bg} {h:AH} {L L':List HP}
end
section
set_option maxRecDepth 100000
variable {G:Bg} {h:AH} {L L':List HP}
def Bh (mb:Nat) (C:bA) (b o cap:Nat):List Value:=[pt mb 0 0,I C.aD,I C.aG,I C.aF,I C.ways,I C.depth,I C.entries,I C.aK,.slice (some ⟨b,o,none⟩) C.lines cap]
structure HmA where
 mb:Nat
 b:Nat
 o:Nat
 cap:Nat
def wu (G:Bg) (hb:Nat) (C:bA) (H:kO) (x:HmA):List HP:=
 [aR hb 0 (Bh x.mb C x.b x.o x.cap),fY G C.lines x.mb C (fun i=>(H i).2),hole G 25 222 (some ⟨x.b,x.o,none⟩) x.cap C.lines x.b x.o,hJ C.lines fun i=>oA x.b (x.o+i*25) (H i).1]
def sF (G:Bg) (hb:Nat) (C:bA) (H:kO):HP:=Bb fun x:HmA=>sp (wu G hb C H x)
def V1 (b o n:Nat) (H:kO) (l:Nat):HP:=sp (((List.range n).erase l).map fun i=>oA b (o+i*25) (H i).1)
theorem yX {hb:Nat} {C:bA} {H:kO} (a:Hs G h (sF G hb C H::L)):∃mb b o cap,Hs G h (aR hb 0 (Bh mb C b o cap)::fY G C.lines mb C (fun i=>(H i).2)::hole G 25 222 (some ⟨b,o,none⟩) cap C.lines b o::hJ C.lines (fun i=>oA b (o+i*25) (H i).1)::L):=by
 obtain⟨⟨mb,b,o,cap⟩,a⟩:=a.yS;exact⟨mb,b,o,cap,a.unpack⟩
theorem mi {hb l:Nat} {C:bA} {H:kO} (c:l<C.lines) (a:Hs G h (sF G hb C H::L)):∃mb b o cap,Hs G h (oA b (o+l*25) (H l).1::aR hb 0 (Bh mb C b o cap)::fY G C.lines mb C (fun i=>(H i).2)::hole G 25 222 (some ⟨b,o,none⟩) cap C.lines b o::V1 b o C.lines H l::L):=by
 obtain⟨mb,b,o,cap,a⟩:=yX a;have a:=(a.front (hJ C.lines fun i=>oA b (o+i*25) (H i).1)).pW l c;exact⟨mb,b,o,cap,(show Hs G h (oA b (o+l*25) (H l).1::V1 b o C.lines H l::_) from a).to⟩
theorem vN {hb:Nat} {C:bA} {H:kO} {mb b o cap:Nat} (a:Hs G h (aR hb 0 (Bh mb C b o cap)::fY G C.lines mb C (fun i=>(H i).2)::hole G 25 222 (some ⟨b,o,none⟩) cap C.lines b o::hJ C.lines (fun i=>oA b (o+i*25) (H i).1)::L)):Hs G h (sF G hb C H::L):=
 Hs.vK (A:=fun x=>sp (wu G hb C H x)) ⟨mb,b,o,cap⟩ (Hs.pack (A:=wu G hb C H ⟨mb,b,o,cap⟩) a)
theorem mem_of {H:kO} {l:Nat} {x:kJ}:(fun i=>(aI H l x i).2)=aI (fun i=>(H i).2) l x.2:=by
 funext i;unfold aI;split<;>rfl
theorem cx {f g k q c:List HP} (hb:Nat) (C:bA) (H:kO) (l:Nat) (r:Row) (m:Ln) (mem:Nat->Ln) (mb b o cap:Nat) (u:l<C.lines) (v:mem=aI (fun i=>(H i).2) l m) (a:Hs G h L) [w:cT (oA b (o+l*25) r) L f] [y:cT (aR hb 0 (Bh mb C b o cap)) f g] [z:cT (fY G C.lines mb C mem) g k]
  [A:cT (hole G 25 222 (some ⟨b,o,none⟩) cap C.lines b o) k q] [B:cT (V1 b o C.lines H l) q c]:Hs G h (sF G hb C (aI H l (r,m))::c):=by
 subst v
 have a:Hs G h (oA b (o+l*25) r::V1 b o C.lines H l::aR hb 0 (Bh mb C b o cap)::fY G C.lines mb C (aI (fun i=>(H i).2) l m)::hole G 25 222 (some ⟨b,o,none⟩) cap C.lines b o::c):=
  (a.perm (w.perm.trans ((y.perm.trans ((z.perm.trans ((A.perm.trans (B.perm.cons _)).cons _)).cons _)).cons _))).to
 have t:(fun i=>oA b (o+i*25) (aI H l (r,m) i).1) l=oA b (o+l*25) r:=by simp only[dJ]
 rw[<-t] at a
 unfold V1 at a
 have a:=a.Bz (n:=C.lines) (i:=l) (fun i=>oA b (o+i*25) (H i).1) (fun i=>oA b (o+i*25) (aI H l (r,m) i).1) u (fun j _ e=>by simp only[bQ e])
 rw[<-mem_of (x:=(r,m))] at a
 exact vN (mb:=mb) (b:=b) (o:=o) (cap:=cap) a.to
section
variable {b o p:Nat} {r:Row} {wa:Option Addr} {wc:Nat} {line:Int} {d:Ln} {Q:Value->AH->Prop}
theorem Z7 (b o:Nat) (r:Row) (a:Option Addr) (c:Nat) {c':List Value} {n:Nat} {cs:List Value} {f g:List HP} (k:Hs G h L) [m:Has (aR b o) L c' f] (i:c'=r.enc a c) [m2:Has (fT 9 162 a c) f (n,cs) g] (j:n=r.waits.length) (e:cs=Gj r.waits):Hs G h (oA b o r::g):=by
 subst i;subst j;subst e;exact Ez r (k.perm (m.perm.trans (m2.perm.cons _)))
end
theorem jh {H:kO} {l:Nat}:aI (fun i=>(H i).2) l (H l).2=fun i=>(H i).2:=qP
end
section
set_option maxRecDepth 100000
variable {G:Bg} {h:AH} {L L':List HP}
def Xl (e:TypeId) (p:Nat) (a:Option Addr) (c:Nat) (xs:List Int):HP:=sp [aR p 0 [.slice a xs.length c],fT 1 e a c (xs.length,xs.map I)]
theorem Wt {e:TypeId} {a:Option Addr} {c n:Nat} {xs:List Int} {Q:Value->AH->Prop} (j:n=xs.length) (f:Hs G h L) [m:Has (fT 1 e a c) L (n,xs.map I) L'] (i:∀p g,Hs G g (Xl e p a c xs::L')->Q (.func (.func 152) #[] #[pt p 0 0]) g):Cl Pr K 99 [.slice a n c] h Q:=by
 subst j;have f:=m.of f;refine cW (fZ f ?_);intro p h f;exact i p _ (Hs.pack (A:=[_,_]) f)
theorem b0 {e:TypeId} {p:Nat} {a:Option Addr} {c:Nat} {xs:List Int} (E:xs.length<2^62):nw Pr K G 152 [] [pt p 0 0] (Xl e p a c xs) (xs.map fun x=>[I x]):=by
 intro q J y L h Q g B u w;refine cW ?_;refine aS g.unpack rfl (bU ?_);have loop:∀(f i:Nat) (h:AH),i+f=xs.length->Hs G h (Xl e p a c xs::q ((xs.drop i).map fun x=>[I x])::L)->Dd 152 1 [] Q [y,(.slice a xs.length c),(I xs.length),(I i)] h:=by
  intro f;induction f with
  |zero=>
   intro i h z g;refine bW (aT (aab ?_));rw[List.drop_eq_nil_of_le (by omega)] at g;exact u _ _ g
  |succ f D=>
   intro i h z g;have j:i<xs.length:=by omega
   refine bW (aT (aae (bW ?_)));obtain⟨b,o,rfl,H,k,_⟩:=(g.unpack.front (fT 1 e a c (xs.length,xs.map I))).An (by omega);refine fN j (yg k (v:=I xs[i]) (by simp[j]) ?_);rw[List.drop_eq_getElem_cons j] at g;refine(B _ _ h _ g.rL).mono fun v t A=>?_;rcases A with⟨rfl,g⟩|⟨rfl,g⟩;exact gM (dO (bW (aad (D (i+1) t (by omega) g.rL))));exact gM (iM (w _ _ g.rL))
 exact loop xs.length 0 h (by omega) g
section
variable {hb p mb b o cap l:Nat} {C:bA} {H:kO} {n:aH} {r:Row} {m:Ln} {Q:Value->AH->Prop}
end
end
end Go.Proofs.YtmhapehobfnoiaaGreatDoor.H
namespace Go.Proofs.YtmhapehobfnoiaaGreatDoor
open Go Go.Ab Go.Hm Go.At Go.Mc
section
def Lb:Mc.iK:=⟨0,0,0,0,0,0,false,0,fun _=>false⟩
def xM (r:Mc.iK):List Value:=[I r.core,I r.world,I r.call,I r.bL,I r.to]
def nj (r:Mc.iK):List Value:=[I r.core,I r.world,I r.call,I r.bL,I r.to,I r.then',.bool r.jY]
def tI (f:Nat->Option Mc.iK) (k:Nat):Option Value:=(f k).map fun r=> .agg ⟨r.enc⟩
theorem Xw {m:Mon}:xC (tI m.runs)=m.running:=by
 unfold xC Mon.running;congr 1;funext k;unfold tI;cases m.runs k<;>rfl
theorem a7 {m:Mon} {g:Int}:(if 0<=g then tI m.runs g.toNat else none)=(m.run g).map fun r=>Value.agg ⟨r.enc⟩:=by
 unfold Mon.run tI;split<;>rfl
set_option maxRecDepth 100000
variable {G:Bg} {h:AH} {L L' M:List HP} {Q:Value->AH->Prop} {C:bA} {m:Mon} {p:Nat}
def uO (C:bA) (p:Nat) (m:Mon):HP:=Bb fun x:Nat×Nat=>sp [aR p 0 [pt x.1 0 0,I C.aD,mP x.2],wQ x.1 m.bX,uS x.2 (tI m.runs)]
theorem Ag (a:Hs G h (uO C p m::L)):∃t b,Hs G h (aR p 0 [pt t 0 0,I C.aD,mP b]::wQ t m.bX::uS b (tI m.runs)::L):=by
 obtain⟨⟨t,b⟩,a⟩:=a.yS;exact⟨t,b,a.Gq⟩
theorem rI {t b:Nat} (a:Hs G h (aR p 0 [pt t 0 0,I C.aD,mP b]::wQ t m.bX::uS b (tI m.runs)::L)):Hs G h (uO C p m::L):=
 Hs.vK (A:=fun x:Nat×Nat=>sp [aR p 0 [pt x.1 0 0,I C.aD,mP x.2],wQ x.1 m.bX,uS x.2 (tI m.runs)]) (t,b) a.Mk
theorem q9 {b:Nat} {g:Int} {k:Value->Prop} (c:Hs G h L) [e:Has (uS b) L (tI m.runs) L'] (a:k (.agg ⟨((m.run g).getD Lb).enc⟩)):bB (xm (.agg ⟨[(I 0),(I 0),(I 0),(I 0),(I 0),(I 0),(.bool false),(I 0),(.bool false),(.bool false),(.bool false),(.bool false)]⟩) h (mP b) (I g) false) k:=by
 refine aBr c ?_;rw[a7];cases hr:m.run g with
 |none=>rw[hr] at a;exact a
 |some r=>rw[hr] at a;exact a
theorem U0 {g:Int}:((m.run g).getD Lb).phase=m.phase g:=by
 unfold Mon.phase;cases m.run g<;>rfl
theorem dp {g:Int} (a:Hs G h L) [f:Has (uO C p) L m L'] (e:∀c,Hs G c (uO C p m::L')->Q (I (m.phase g)) c):Cl Pr K 102 [pt p 0 0,I g] h Q:=by
 obtain⟨t,b,a⟩:=Ag (f.of a);refine cW (fM (dO (aN (aC (ae p a rfl (q9 (m:=m) a (o8 rfl ?_)))))));show Q _ _;rw[U0];exact e _ (rI a)
theorem ya {g:Int} (a:Hs G h L) [k:Has (uO C p) L m L'] (j:∀l i,Hs G i (uO C p m::L')->(m.phase g≠0->l=xM ((m.run g).getD Lb))->l.length=5->l.all dR=true->Q (.tuple ⟨[.agg ⟨l⟩,.bool (decide (m.phase g≠0))]⟩) i):Cl Pr K 52 [pt p 0 0,I g] h Q:=by
 refine cW (fA a fun q h a=>dp (C:=C) (m:=m) a fun h a=>mW (eE (fun f=>?_) (fun f=>?_)));refine cQ (c:=(xM Lb)) rfl (ap (b:=q) a fun h a=>an q a (l:=(xM Lb)) rfl rfl ?_);have:=j (xM Lb) h a.to (fun e=>absurd f e) rfl rfl;rw[decide_eq_false (by omega)] at this;exact this;obtain⟨t,b,a⟩:=Ag a;refine aN (aC (ae p a rfl (q9 (m:=m) a (Tz (m:=nj ((m.run g).getD Lb)) rfl rfl (Tz (m:=xM ((m.run g).getD Lb)) rfl rfl ?_)))));refine ap (b:=q) a fun h a=>an q a (l:=xM ((m.run g).getD Lb)) rfl rfl ?_;have:=j _ h (rI (t:=t) (b:=b) a.to) (fun _=>rfl) rfl rfl;rw[decide_eq_true f] at this;exact this
theorem Sc (f:Hs G h L) [v:Has (uO C p) L m L'] (u:∀q a c i,Hs G i (H.Xl 3 q a c (m.running.map fun k:Nat=>(k:Int))::uO C p m::L')->Q (.func (.func 152) #[] #[pt q 0 0]) i):Cl Pr K 51 [pt p 0 0] h Q:=by
 obtain⟨t,b,f⟩:=Ag (v.of f);refine cW (fM (dO (aN (aC (ae p f rfl ?_)))));refine cW (yc f fun q h f=>?_);have f:Hs G h (aR q 0 [mP b]::mt q (157,true,1)::uS b (tI m.runs)::aR p 0 [pt t 0 0,I C.aD,mP b]::wQ t m.bX::L'):=f.to;refine Zh (e:=3) rfl f fun a g h f=>?_;rw[Xw (m:=m)] at f ⊢;have e:(m.running.map fun k:Nat=>I k)=(m.running.map fun k:Nat=>(k:Int)).map I:=by rw[List.map_map];rfl
 rw[e] at f;refine H.Wt (e:=3) (xs:=m.running.map fun k:Nat=>(k:Int)) (by simp) f fun j h f=>?_;have f:Hs G h (aR p 0 [pt t 0 0,I C.aD,mP b]::wQ t m.bX::uS b (tI m.runs)::H.Xl 3 j a g (m.running.map fun k:Nat=>(k:Int))::L'):=f.to;exact u j a g _ (rI f).rL
end
end Go.Proofs.YtmhapehobfnoiaaGreatDoor
end
namespace Go.Ct
open Go Go.Ab Go.Hm
section
variable {n ways:Nat} {S:Nat->List Th} {no:Int} {x:vT}
theorem K8 {l:List Th} (h:no∉l.map (·.1)):rem no l=l:=by
 induction l with
 |nil=>rfl
 |cons t l a=>
  simp only[List.map_cons,List.mem_cons,not_or] at h;unfold rem;grind
theorem Tm {l:List Th} (a:(l.map (·.1)).Nodup):rem no (rem no l)=rem no l:=K8 (Db a)
theorem F7 {l:List Th} (h:get no l=some x):(rem no l).length<l.length:=by
 rw[px,h];have:=get_mem h;grind
theorem jQ (a:(aQ n S no).2=0):get no (S (setOf n no))=some (aQ n S no).1/\0<=no:=by
 unfold aQ at a ⊢;grind
theorem yU (c:∀i,jL ways (S i)) (e:(aQ n S no).2=0):(kR n ways S no x).2=0:=by
 obtain⟨a,f⟩:=jQ e;have:=F7 a;have:=(c (setOf n no)).len;unfold kR;grind
theorem Ll (a:0<=no):fR n S no (setOf n no)=rem no (S (setOf n no)):=by
 unfold fR aI;rw[aaa,aCx rfl]
theorem Zo (a:∀i,jL ways (S i)) (c:(aQ n S no).2=0):s9 n ways S no=0:=by
 obtain⟨e,f⟩:=jQ c;have:=F7 e;have:=(a (setOf n no)).len;unfold s9;rw[aCx c];unfold kR;rw[Ll f,Tm (a _).nd,aaa]
theorem vD (c:∀i,jL ways (S i)) (f:0<=no) (a:(kR n ways S no x).2=0):aQ n (kR n ways S no x).1 no=(x,0):=by
 unfold kR at a ⊢;split at a;cases a;rename_i e;rw[aCw e];unfold aQ aI;rw[aaa];dsimp only;rw[aCx rfl,Zd (Db (c _).nd)]
theorem D4 (c:∀i,jL ways (S i)) (a:(aQ n S no).2=0):aQ n (Af n ways S no) no=aQ n S no:=by
 obtain⟨g,f⟩:=jQ a;have e:=Zo c a;unfold s9 at e;rw[aCx a] at e;unfold Af;rw[aCx a,vD (kW c) f e];grind
theorem ch {S:Nat->List Th} {l a:Int} {w:Bool} (h:nD n S l a w=true):nD n S l a false=true:=by
 unfold nD at h ⊢;unfold lN at h ⊢;grind [L0,fx]
end
end Go.Ct
section
namespace Go.Hm
open Go Go.Ab
structure kH (k:Nat) (r:Row):Prop where
 core:0<=r.served.core/\r.served.core<4
 owner: -1<=r.owner/\r.owner<4
 waits:∀n∈r.waits,n.line=k/\(0<=n.core/\n.core<4)/\(n.kind=0\/n.kind=1\/n.kind=2\/n.kind=3)
 apart:∀i:Nat,i<4->r.sh i=true->(i:Int)≠r.owner
 want:r.busy=true->r.granted=false->r.served.kind=0\/r.served.kind=2\/r.owner≠r.served.core
 still:r.granted=true\/r.busy=false->r.quiet=true
 gb:r.granted=true->r.busy=true
theorem kH.inv {k:Nat} {r:Row} (h:kH k r):r.Inv:=⟨h.core,h.owner,fun n a=>(h.waits n a).2.1⟩
theorem r6 (k:Nat):kH k oW:=⟨by decide,by decide,by simp[oW],by simp[oW],by simp[oW],fun _=>rfl,by simp[oW]⟩
theorem quiet_of {r r':Row} (h:r'.asked=r.asked):r'.quiet=r.quiet:=by unfold Row.quiet;rw[h]
theorem uD {k:Nat} {r:Row} {c:Int} (h:kH k r):kH k (r.leave c) where
 core:=h.core
 owner:=by unfold Row.leave;simp only;split;omega;exact h.owner
 waits:=h.waits
 apart:=fun i g a=>by
  unfold Row.leave fO at a ⊢;simp only at a ⊢;split at a;cases a;split;omega;exact h.apart i g a
 want:=fun e f=>by
  rcases h.want e f with h|h|j;exact .inl h;exact .inr (.inl h);refine .inr (.inr ?_);have:=h.core;unfold Row.leave;grind
 still:=fun e=>(quiet_of (r':=r.leave c) rfl).trans (h.still e)
 gb:=h.gb
theorem vX {k:Nat} {r:Row} (h:kH k r) (c:r.quiet=true):kH k r.free where
 core:=by show(0:Int)<=0/\(0:Int)<4;omega
 owner:=h.owner
 waits:=h.waits
 apart:=h.apart
 want:=fun a=>by cases a
 still:=fun _=>(quiet_of (r':=r.free) rfl).trans c
 gb:=fun a=>by cases a
theorem wF {k:Nat} {r:Row} {n:aH} (h:kH k r) (a:n.line=k) (c:0<=n.core/\n.core<4) (e:n.kind=0\/n.kind=1\/n.kind=2\/n.kind=3):kH k (r.wait n) where
 core:=h.core
 owner:=h.owner
 waits:=fun m hm=>by
  rcases List.mem_append.1 hm with hm|hm;exact h.waits m hm;grind
 apart:=h.apart
 want:=h.want
 still:=fun a=>(quiet_of (r':=r.wait n) rfl).trans (h.still a)
 gb:=h.gb
theorem vF {k:Nat} {r:Row} {n:aH} {w:List aH} (h:kH k r) (e:r.waits=n::w):kH k (r.next w) where
 core:=h.core
 owner:=h.owner
 waits:=fun m c=>h.waits m (by rw[e];exact List.mem_cons_of_mem _ c)
 apart:=h.apart
 want:=h.want
 still:=fun a=>(quiet_of (r':=r.next w) rfl).trans (h.still a)
 gb:=h.gb
structure uV (k:Nat) (r:Row):Prop where
 core:0<=r.served.core/\r.served.core<4
 owner: -1<=r.owner/\r.owner<4
 waits:∀n∈r.waits,n.line=k/\(0<=n.core/\n.core<4)/\(n.kind=0\/n.kind=1\/n.kind=2\/n.kind=3)
 apart:∀i:Nat,i<4->r.sh i=true->(i:Int)≠r.owner
 want:r.served.kind=0\/r.served.kind=2\/r.owner≠r.served.core
 busy:r.busy=true
 gr:r.granted=false
theorem uV.Vc {k:Nat} {r:Row} (h:uV k r):kH k r:=⟨h.core,h.owner,h.waits,h.apart,fun _ _=>h.want,fun a=>by rw[h.busy,h.gr] at a;simp at a,fun a=>by rw[h.gr] at a;cases a⟩
theorem rY {k:Nat} {r:Row} {line:Int} {d:Ln} (h:uV k r) (j:r.served.kind≠0) (f:r.quiet=true):kH k (r.eA line d).1:=by
 have q:=h.core;unfold Row.eA;split;exact⟨h.core,by simp only;omega,h.waits,fun i _ c=>(by cases c),fun _ a=>(by cases a),fun _=>f,fun _=>h.busy⟩;rename_i a;split;refine⟨h.core,by simp only;omega,h.waits,fun i g c=>?_,fun _ a=>(by cases a),fun _=>f,fun _=>h.busy⟩;simp only[fO] at c ⊢;grind;refine⟨h.core,h.owner,h.waits,fun i g c=>?_,fun _ a=>(by cases a),fun _=>f,fun _=>h.busy⟩;simp only[fO] at c ⊢;split at c;rename_i e;rcases h.want with h|h|h;exact absurd h j;exact absurd h a;grind;exact h.apart i g c
theorem uM {k:Nat} {r:Row} {l:List Nat} (h:uV k r):kH k (r.Kd l):=uV.Vc ⟨h.core,h.owner,h.waits,h.apart,h.want,h.busy,h.gr⟩
theorem Xg {k:Nat} {r:Row} {line:Int} {m:Ln} (h:uV k r):kH k (r.rest line m).1:=by
 unfold Row.rest;split;rename_i a;split;exact vX h.Vc a;rename_i c;exact rY h c a;exact h.Vc
theorem xI {k:Nat} {r:Row} {n:aH} (h:kH k r) (u:0<=n.core/\n.core<4) (q:r.asked n.core.toNat=true):uV k (r.heard n):=by
 have j:r.quiet=false:=by
  have:n.core.toNat=0\/n.core.toNat=1\/n.core.toNat=2\/n.core.toNat=3:=by omega
  unfold Row.quiet;grind
 have a:r.granted=false:=by
  cases a:r.granted with
  |false=>rfl
  |true=>have:=h.still (.inl a);grind
 have hb:r.busy=true:=by
  cases hb:r.busy with
  |true=>rfl
  |false=>have:=h.still (.inr hb);grind
 have e:uV k (r.eF n):=⟨h.core,h.owner,h.waits,h.apart,h.want hb a,hb,a⟩;have f:uV k ((r.eF n).Lh n):=⟨h.core,by show -1<=(-1:Int)/\(-1:Int)<4;omega,h.waits,fun i t _=>by show(i:Int)≠ -1;omega,by
  have:=h.core;right;right;show(-1:Int)≠r.served.core;omega,hb,a⟩
 have g:∀{r:Row},uV k r->uV k (r.sG n):=fun h=>⟨h.core,h.owner,h.waits,h.apart,h.want,h.busy,h.gr⟩;unfold Row.heard;split;have:=uD (c:=n.core) e.Vc;exact⟨this.core,this.owner,this.waits,this.apart,this.want hb a,hb,a⟩;split;split;exact g f;exact f;split;exact g e;exact e
theorem V0 {k:Nat} {x:kJ} {n:aH} (h:kH k x.1) (i:hU n.kind) (e:n.line=k) (c:0<=n.core/\n.core<4):kH k (kJ.take x k n).1.1:=by
 unfold kJ.take;split;split;exact h;rename_i f;have a:x.1.granted=true:=by
  cases a:x.1.granted with
  |true=>rfl
  |false=>exact absurd (.inl a) f
 exact vX h (h.still (.inl a));split;split;exact h;rename_i g;exact Xg (xI h c (by simpa using g));rename_i j q;exact wF h e c (by unfold hU at i;omega)
theorem C1 {r:Row} {x:Int}:∀(f i:Nat),r.yG x f i≠ -1->r.dZ x f i≠[]:=by
 intro f;induction f with
 |zero=>intro i h;exact absurd rfl h
 |succ f a=>
  intro i h;unfold Row.yG at h;unfold Row.dZ;grind
theorem Nr {r:Row} {x:Int}:∀(f i:Nat),∀c∈r.dZ x f i,(c:Int)≠x:=by
 intro f;induction f with
 |zero=>intro i c a;simp[Row.dZ] at a
 |succ f g=>
  intro i c a;unfold Row.dZ at a;split at a;rename_i e;rcases List.mem_cons.1 a with rfl|a;unfold Row.holds at e;simp at e;exact e.1;exact g _ c a;exact g _ c a
def aH.oP (n:aH):aH:=if n.kind=0 then {n with core:= -1} else n
theorem Gr {k:Nat} {r:Row} {d:Ln} {n:aH} (f:r.served.core=n.core) (c:n.kind=1\/n.kind=2) (e:n.line=k):(∀m∈(r.eA k d).2,m.fits n.oP (r.eA k d).2.length)/\(r.eA k d).2≠[]:=by
 have g:n.oP=n:=by unfold aH.oP;rw[aaa]
 rw[g];unfold Row.eA;split;refine⟨fun m a=>?_,by simp⟩;rw[List.mem_singleton.1 a];exact⟨e.symm,rfl,.inl ⟨rfl,f,rfl,c⟩⟩;split;refine⟨fun m a=>?_,by simp⟩;rw[List.mem_singleton.1 a];exact⟨e.symm,rfl,.inl ⟨rfl,f,rfl,c⟩⟩;refine⟨fun m a=>?_,by simp⟩;rw[List.mem_singleton.1 a];exact⟨e.symm,rfl,.inl ⟨rfl,f,rfl,c⟩⟩
theorem uJ {k:Nat} {n:aH} {st:Int} {l:List Nat} (g:n.line=k) (q:n.kind=1\/n.kind=2\/(n.kind=0/\st=0)) (f:∀c∈l,(c:Int)≠n.oP.core) {len:Nat}:∀m∈eQ k st l,m.fits n.oP len:=by
 intro m i;obtain⟨c,a,rfl⟩:=List.mem_map.1 i;have e:n.oP.line=k:=by unfold aH.oP;split<;>exact g
 have j:n.oP.kind=n.kind:=by unfold aH.oP;split<;>rfl
 refine⟨e.symm,rfl,.inr (.inr (.inr ⟨rfl,rfl,f c a,?_⟩))⟩;grind
theorem mg {k:Nat} {r:Row} {n:aH} {w:Int} {m:Ln} (h:kH k r) (hb:r.busy=false) (g:n.line=k) (t:0<=n.core/\n.core<4) (y:n.kind=1\/n.kind=2):
  kH k (r.get k m n w).1/\(∀x∈(r.get k m n w).2,x.fits n.oP (r.get k m n w).2.length)/\(r.get k m n w).2≠[]:=by
 have z:=h.still (.inr hb)
 have f:r.granted=false:=by
  cases f:r.granted with
  |false=>rfl
  |true=>have:=h.gb f;grind
 have v:n.oP=n:=by unfold aH.oP;rw[aaa]
 unfold Row.get
 simp only
 split
 .rename_i j;have A:uV k (r.serve n w):=⟨t,h.owner,h.waits,h.apart,.inr (.inl j),rfl,f⟩;unfold Row.getM;split
  .rename_i a;refine⟨uM A,?_,?_⟩
   .exact uJ g (.inr (.inl j)) (fun c q=>by rw[v];exact Nr 4 0 c q)
   .have:=C1 4 0 a;intro e;exact this (List.map_eq_nil_iff.1 e)
  .exact⟨rY A (by show n.kind≠0;omega) z,Gr rfl y g⟩
 .rename_i j;have E:n.kind=1:=by omega
  have B:(r.serve n w).mV.served=n/\(r.serve n w).mV.asked=r.asked/\((r.serve n w).mV.owner= -1\/((r.serve n w).mV.owner=r.owner/\r.owner≠n.core))/\uV k (r.serve n w).mV:=by
   unfold Row.mV;split;refine⟨rfl,rfl,.inl rfl,⟨t,by grind,h.waits,fun i _ _=>by grind,.inr (.inr ?_),rfl,f⟩⟩;show(-1:Int)≠n.core;omega;rename_i a;exact⟨rfl,rfl,.inr ⟨rfl,a⟩,⟨t,h.owner,h.waits,h.apart,.inr (.inr a),rfl,f⟩⟩
  generalize(r.serve n w).mV=r2 at B
  obtain⟨D,F,I,u⟩:=B
  unfold Row.Ro
  split
  .rename_i a;refine⟨uM u,?_,by simp[eQ]⟩;refine uJ g (.inl E) (fun c q=>?_);rw[List.mem_singleton.1 q,v];have:=u.owner;omega
  .exact⟨rY u (by rw[D];omega) (by rw[quiet_of F];exact z),Gr (by rw[D]) y g⟩
theorem Wb {k:Nat} {r:Row} {n:aH} {m:Ln} {j:Int->Int×Bool} (h:kH k r) (hb:r.busy=false) (i:n.line=k) (v:0<=n.core/\n.core<4) (y:n.kind=0\/n.kind=1\/n.kind=2\/n.kind=3):
  kH k (r.begun k m n j).1.1/\(∀x∈(r.begun k m n j).2,x.fits n.oP (r.begun k m n j).2.length)/\((r.begun k m n j).2≠[]\/n.oP.kind=0):=by
 have z:=h.still (.inr hb)
 have q:r.granted=false:=by
  cases q:r.granted with
  |false=>rfl
  |true=>have:=h.gb q;rw[hb] at this;cases this
 unfold Row.begun
 split
 .rename_i u;have f:n.oP=n:=by unfold aH.oP;rw[aaa]
  refine⟨uD h,fun x t=>?_,.inl (by simp)⟩
  rw[List.mem_singleton.1 t,f]
  exact⟨i.symm,rfl,.inr (.inr (.inl ⟨rfl,rfl,rfl,rfl,u⟩))⟩
 .rename_i u;split
  .rename_i e;have f:n.oP=n:=by unfold aH.oP;rw[aaa]
   split
   .obtain⟨a,b,c⟩:=mg (m:=m) (w:=(j n.world).1) h hb i v e;grind
   .refine⟨h,fun x t=>?_,.inl (by simp)⟩;rw[List.mem_singleton.1 t,f];exact⟨i.symm,rfl,.inr (.inl ⟨rfl,rfl,rfl,rfl,e⟩)⟩
  .rename_i e;have g:n.kind=0:=by omega
   have f:n.oP={n with core:= -1}:=by unfold aH.oP;rw[aCx g]
   split
   .grind
   .refine⟨uM (r:=r.fi n) ⟨v,h.owner,h.waits,h.apart,.inl g,rfl,q⟩,?_,.inr (by rw[f];exact g)⟩;exact uJ i (.inr (.inr ⟨g,rfl⟩)) (fun c _=>by grind)
end Go.Hm
namespace Go.Hm
open Go Go.Ab
theorem mM {r:Row} {line:Int} {d:Ln}:(r.eA line d).1.waits=r.waits:=by
 unfold Row.eA;grind
theorem R7 {r:Row} {line:Int} {m:Ln}:(r.rest line m).1.waits=r.waits:=by
 unfold Row.rest;split;split;rfl;exact mM;rfl
theorem mG {r:Row} {n:aH}:(r.heard n).waits=r.waits:=by
 unfold Row.heard;repeat' split
 all_goals rfl
theorem Xo {r:Row} {line:Int} {m:Ln} {n:aH} {w:Int}:(r.get line m n w).1.waits=r.waits:=by
 have a:(r.serve n w).mV.waits=r.waits:=by unfold Row.mV;split<;>rfl
 unfold Row.get;simp only;split;unfold Row.getM;split;rfl;exact mM;unfold Row.Ro;split;exact a;rw[mM];exact a
theorem Pe {r:Row} {line:Int} {m:Ln} {n:aH} {j:Int->Int×Bool}:(r.begun line m n j).1.1.waits=r.waits:=by
 unfold Row.begun;split;rfl;split;split;exact Xo;rfl;split<;>rfl
def C0:bA:=⟨3,2,1,1,4,2,2⟩
def Em (H:kO) (R:Nat->List aH) (i:Nat):Prop:=∀k,k<4->kH k (H k).1/\R k=(H k).1.waits.map aH.oP/\(H k).1.waits.length<=i
theorem Em.h {H:kO} {R:Nat->List aH} {i:Nat} (h:Em H R i) (N:Nat) (c:i<=N):Za C0 H N:=fun k a=>⟨(h k a).1.inv,Nat.le_trans (h k a).2.2 c⟩
theorem Em.oR {H:kO} {R:Nat->List aH} {i l:Nat} {x:kJ} {w:List aH} (h:Em H R i) (g:kH l x.1) (j:w=x.1.waits.map aH.oP) (q:x.1.waits.length<=i+1):Em (aI H l x) (aI R l w) (i+1):=by
 intro k f;unfold aI;by_cases e:k=l;grind;simp only[aCw e];obtain⟨a,b,c⟩:=h k f;grind
theorem Em.same {H:kO} {R:Nat->List aH} {i l:Nat} {x:kJ} (h:Em H R i) (c:l<4) (e:kH l x.1) (a:x.1.waits=(H l).1.waits):Em (aI H l x) R (i+1):=by
 have:=h.oR (x:=x) (w:=R l) e (by rw[a];exact(h l c).2.1) (by rw[a];have:=(h l c).2.2;omega);rwa [show aI R l (R l)=R from qP] at this
theorem Em.up {H:kO} {R:Nat->List aH} {i:Nat} (h:Em H R i):Em H R (i+1):=fun k a=>⟨(h k a).1,(h k a).2.1,by have:=(h k a).2.2;omega⟩
theorem Jk {r:Row} {line:Int} {d:Ln}:(r.eA line d).2.length<=4:=by
 unfold Row.eA;grind
theorem Fw {line st:Int} {l:List Nat}:(eQ line st l).length=l.length:=by simp[eQ]
theorem T0 {r:Row} {line:Int} {m:Ln} {n:aH} {w:Int}:(r.get line m n w).2.length<=4:=by
 unfold Row.get;simp only;split;unfold Row.getM;split;rw[Fw];exact M9;exact Jk;unfold Row.Ro;split;simp[Fw];exact Jk
end Go.Hm
end
namespace Go.Mc
open Go Go.Ab Go.Hm Go.At Go.Is Go.Ct Go.Nt
section
structure gR (C:bA) (m:Mon):Prop where
 len:m.bX.length=C.aG.toNat
 own:∀x∈m.bX,0<=x.owner/\x.owner<=4
 run:∀g r,m.runs g=some r->(g:Int)<C.aG/\r.bL=g/\(r.phase=1\/r.phase=2)/\(0<=r.core/\r.core<C.aD)/\(0<=r.then'/\r.then'<=4)
def xw (Cf:bA) (F:gJ):Prop:=∀c w,(F c w).length<=Cf.depth
theorem gR.kP {C:bA} {m:Mon} (h:gR C m) {g:Int} (a:m.has g):0<=(m.kP g).owner/\(m.kP g).owner<=4:=by
 refine h.own _ ?_;unfold Mon.has at a;unfold Mon.kP;grind
theorem gR.aBv {C:bA} {m:Mon} (hC:C.Ok) (a:gR C m):∀g r,m.runs g=some r->g<16:=by
 intro g r c;have:=(a.run g r c).1;have:=hC.2.1;omega
theorem xw.aAs {Cf:bA} {F:gJ} (hC:Cf.Ok) (h:xw Cf F):∀c w,(F c w).length<=500:=by
 intro c w;have:=h c w;have:=hC.2.2.2.2.1;omega
structure vg (Cf:bA) (M:bY) (i:Nat):Prop where
 bC:gR Cf M.bC
 Rq:(M.aB i).Ok
 gx:gO Cf (M.dB i)
 oU:(M.dN i).known.length<=100
 jS:xw Cf M.jS
 log:M.log.length<=2^30
structure vu (Cf:bA) (M:bY) (n:aH):Prop where
 core:0<=n.core/\n.core<Cf.aD
 bC:gR Cf M.bC
 home:Za Cf M.home (2^30 - 4)
 gx:gO Cf (M.dB n.core.toNat)
 oU:(M.dN n.core.toNat).known.length<=100
 bL:0<=(M.dN n.core.toNat).bL/\(M.dN n.core.toNat).bL<Cf.aG
 word:n.kind=12->0<=n.d0/\n.d0<=1000000
structure Xj (C:bA) (n:aH):Prop where
 oU:oU C n=0
 word:n.kind=12->0<=n.d0/\n.d0<=1000000
def Mi (C:bA) (N:Nat) (H:kO):Prop:=∀l,l<C.lines->kH l (H l).1/\(H l).1.waits.length<=N
structure Gn (C:bA) (F:gJ):Prop where
 len:xw C F
 note:∀c w,∀n∈F c w,Xj C n/\n.core.toNat=c/\xB n=w
def tF (C:bA) (c:iR):Prop:=(c.known.length:Int)<=C.entries/\0<=c.bL/\c.bL<C.aG
structure cS (C:bA) (N:Nat) (M:bY):Prop where
 bC:gR C M.bC
 Rq:∀i:Nat,(i:Int)<C.aD->(M.aB i).Ok
 gx:∀i:Nat,(i:Int)<C.aD->gO C (M.dB i)
 oU:∀i:Nat,(i:Int)<C.aD->tF C (M.dN i)
 home:Mi C N M.home
 jS:Gn C M.jS
 log:M.log.length<=N
variable {C:bA} {N:Nat} {M:bY}
theorem Mi.h {H:kO} (h:Mi C N H) {K:Nat} (c:N<=K):Za C H K:=fun l a=>⟨(h l a).1.inv,Nat.le_trans (h l a).2 c⟩
theorem tF.len (hC:C.Ok) {c:iR} (h:tF C c):c.known.length<=100:=by
 have:=h.1;have:C.entries<=8:=by unfold bA.Ok at hC;omega
 omega
theorem cS.step (h:cS C N M) (hC:C.Ok) (c:N<=2^29) {i:Nat} (a:(i:Int)<C.aD):vg C M i:=⟨h.bC,h.Rq i a,h.gx i a,(h.oU i a).len hC,h.jS.len,by have:=h.log;omega⟩
theorem zX {n:aH} (h:oU C n=0):nf n.kind/\0<=n.core/\n.core<C.aD:=by
 unfold Nt.oU at h;split at h
 .rename_i f;split at h
  .split at h
   .rename_i j;refine⟨f,?_⟩;have a:=j.1;unfold nf at f;have:∃c,Ya n.kind.toNat=1::c:=by
     rcases k14 (k:=n.kind.toNat) (by omega) with e|e|e|e|e|e|e|e|e|e|e|e|e|e;omega;all_goals rw[e];exact⟨_,rfl⟩
    obtain⟨c,g⟩:=this;rw[g] at a;unfold E7 at a;split at a;rename_i i;exact i;cases a
   cases h
  cases h
 cases h
theorem Wm {n:aH} (h:oU C n=0) (c:n.kind=8):n.state=1\/n.state=2\/n.state=4:=by
 unfold Nt.oU at h;rw[c] at h;split at h;split at h;split at h;rename_i f;have a:=f.1;rw[show Ya (8:Int).toNat=[1,2,4,6,8,9] from rfl] at a;simp only[E7] at a;split at a;split at a;split at a;split at a;rename_i e;exact e;cases a;cases a;cases a;cases a;cases h;cases h;cases h
theorem O7 {F:gJ} {a b c:Int} (hF:Gn C F) (e:(F.take C a b c).2.2=0):Xj C (F.take C a b c).2.1/\(F.take C a b c).2.1∈F a.toNat b.toNat:=by
 unfold gJ.take at e ⊢;by_cases i:(0<=a/\a<C.aD)/\(0<=b/\b<4);rw[aCw (fun h=>h i)] at e ⊢;dsimp only at e ⊢;by_cases f:F a.toNat b.toNat=[];grind;rw[aCw f];have q:0<(F a.toNat b.toNat).length:=List.length_pos_iff.2 f;have hb:(c % ((F a.toNat b.toNat).length:Int)).toNat<(F a.toNat b.toNat).length:=by
  have j:=Int.emod_nonneg c (show((F a.toNat b.toNat).length:Int)≠0 by omega);have k:=Int.emod_lt_of_pos c (show(0:Int)<((F a.toNat b.toNat).length:Int) by omega);omega
 have g:(F a.toNat b.toNat).getD (c % ((F a.toNat b.toNat).length:Int)).toNat aH.zero∈F a.toNat b.toNat:=by
  grind
 exact⟨(hF.note _ _ _ g).1,g⟩;grind
theorem Yn {F:gJ} {a b c:Int} (hF:Gn C F):Gn C (F.take C a b c).1:=by
 unfold gJ.take;split;exact hF;dsimp only;split;exact hF;constructor;intro x y;unfold gJ.set;dsimp only;split;rename_i e;have:=hF.len x y;grind;exact hF.len x y;intro x y n f;unfold gJ.set at f;dsimp only at f;split at f;rename_i e;have:=hF.note _ _ n (List.mem_of_mem_eraseIdx f);grind;exact hF.note x y n f
theorem mh {F:gJ} {n:aH} (hF:Gn C F) (c:Xj C n) (a:((F n.core.toNat (xB n)).length:Int)<C.depth):Gn C (F.put n):=by
 constructor;intro x y;unfold gJ.put gJ.set;split;grind;exact hF.len x y;intro x y k hk;unfold gJ.put gJ.set at hk;split at hk;rename_i e;rcases List.mem_append.1 hk with hk|hk;rw[e.1,e.2];exact hF.note _ _ k hk;grind;exact hF.note x y k hk
theorem bp:∀{l:List aH} {F a:gJ},Gn C F->(∀n∈l,Xj C n)->gJ.Hu C.depth F l=some a->Gn C a:=by
 intro l;induction l with
 |nil=>intro F a hF _ h;cases h;exact hF
 |cons n l g=>
  intro F a hF c h;unfold gJ.Hu at h;split at h;rename_i e;exact g (mh hF (c n List.mem_cons_self) e) (fun k f=>c k (List.mem_cons_of_mem _ f)) h;cases h
theorem zD:∀{l:List aH},dN C l=0->∀n∈l,Nt.oU C n=0
 |[],_,n,a=>by cases a
 |k::l,h,n,a=>by
  unfold dN at h;split at h;grind;rename_i c;rcases List.mem_cons.1 a with rfl|a;simpa using c;exact zD h n a
theorem uH {F:gJ} {l:List aH} (hF:Gn C F) (f:∀n∈l,n.kind=12->0<=n.d0/\n.d0<=1000000):Gn C (F.send C l).1:=by
 unfold gJ.send;split;exact hF;rename_i c;split;rename_i g e;exact bp hF (fun n a=>⟨zD (by simpa using c) n a,f n a⟩) e;exact hF
theorem Om {s:aJ} (a:s.Ok) (h:s.over=false):Fits (yJ s.prog s.at') s.prog.length/\s.at'<s.prog.length:=by
 have c:=a.2.2.1;rw[h] at c;have e:=lg c.symm;exact⟨Zu (a.2.2.2.2 _ (Z1 a.1 e)),e⟩
theorem jV {s t:aJ} {a:Int} (c:s.Ok) (f:t.prog=s.prog) (e:0<=a) (g:a<=s.prog.length):(t.eY a).Ok:=by
 unfold aJ.Ok aJ.eY;dsimp only;rw[f];exact⟨e,by have:=c.2.2.2.1;omega,rfl,c.2.2.2.1,c.2.2.2.2⟩
theorem iy {s:aJ} {i:Nat} {r:aJ×Ev} (a:s.Ok) (h:aJ.oG s i=some r):r.1.Ok:=by
 unfold aJ.oG aJ.next? at h;cases hov:s.over with
 |true=>grind
 |false=>
  rw[hov] at h;simp only[Bool.false_eq_true,if_false] at h;obtain⟨c,g⟩:=Om a hov;have f:=a.1;split at h;cases h;exact jV a rfl (by omega) (by omega);split at h;cases h;exact jV a rfl (by omega) (by omega);split at h;cases h;exact jV a rfl (by omega) (by omega);split at h;split at h;cases h;exact jV a rfl (by omega) (by omega);cases h;exact jV a rfl (by omega) (by omega);split at h;rename_i e;have:=c.p1 e;cases h;exact jV a rfl (by omega) (by omega);split at h;rename_i e;have:=c.p2 e;cases h;refine jV a rfl ?_ ?_;split<;>omega;split<;>omega;cases h
theorem Ws {s:aJ} {i:Nat} {v c:Int} (a:s.Ok):(aJ.aY s i v c).1.Ok:=by
 unfold aJ.aY;cases hn:aJ.next? s with
 |none=>exact a
 |some x=>
  have e:s.over=false:=by
   unfold aJ.next? at hn;cases h:s.over with
   |false=>rfl
   |true=>rw[h] at hn;simp at hn
  obtain⟨g,j⟩:=Om a e;have f:=a.1;dsimp only;split;exact jV a rfl (by omega) (by omega);split;split;exact a;split;exact jV a rfl (by omega) (by omega);split;exact jV a rfl (by omega) (by omega);exact jV a rfl (by omega) (by omega);exact a
theorem fp (hC:C.Ok) {c:iR} {f:Int×Int} (h:tF C c):tF C (c.Fp C f):=by
 have a:1<=C.entries:=by unfold bA.Ok at hC;omega
 refine⟨?_,h.2⟩;unfold iR.Fp;dsimp only;have:=h.1;grind
theorem V8 {c:iR} {g:Int} (h:tF C c):tF C (c.begin C g).1:=by
 unfold iR.begin;split;exact h;rename_i a;split;exact h;split;exact h;refine⟨h.1,?_⟩;show 0<=g/\g<C.aG;simpa using a
theorem Vf (hC:C.Ok) {c:iR} {a w:Int} (h:tF C c):tF C (c.walked C a w).1:=by
 have e:1<=C.aG:=hC.2.1.1;unfold iR.walked;split;exact h;split;exact h;split;exact h;dsimp only;split;exact h;split;exact h;split;exact h;refine⟨(fp hC h).1,?_⟩;show(0:Int)<=0/\(0:Int)<C.aG;omega
theorem jw {c:iR} {g:Int} (h:tF C c):tF C (c.drop C g).1:=by
 unfold iR.drop;split;exact h;refine⟨?_,h.2⟩;have:=List.length_filter_le (fun x:Int×Int=> !decide (g= -1\/x.1=g)) c.known;have:=h.1;dsimp only;omega
end
section
variable {C:bA} {N:Nat} {M:bY}
theorem cS.mono {K:Nat} (h:cS C N M) (c:N<=K):cS C K M:=⟨h.bC,h.Rq,h.gx,h.oU,fun l a=>⟨(h.home l a).1,Nat.le_trans (h.home l a).2 c⟩,h.jS,Nat.le_trans h.log c⟩
theorem Lf {α:Type} {P:α->Prop} {s:Nat->α} {i:Nat} {t:α} {n:Int} (h:∀j:Nat,(j:Int)<n->P (s j)) (c:P t):∀j:Nat,(j:Int)<n->P (aI s i t j):=by
 intro j a;unfold aI;grind
theorem cS.gZ (h:cS C N M) {F:gJ} (hF:Gn C F):cS C N (M.gZ F):={h with jS:=hF}
theorem cS.kY (h:cS C N M) {m:Mon} (a:gR C m):cS C N (M.kY m):={h with bC:=a}
theorem cS.Ao (h:cS C N M) {H:kO} {K:Nat} (a:N<=K) (hH:Mi C K H):cS C K (M.Ao H):={h.mono a with home:=hH}
theorem cS.Hj (h:cS C N M) {i:Nat} {c:eM} (a:gO C c):cS C N (M.Hj i c):={h with gx:=Lf h.gx a}
theorem cS.Mm (h:cS C N M) {i:Nat} {c:iR} (a:tF C c):cS C N (M.Mm i c):={h with oU:=Lf h.oU a}
theorem cS.oS (h:cS C N M) {i:Nat} {c:aJ} (a:c.Ok):cS C N (M.oS i c):={h with Rq:=Lf h.Rq a}
theorem cS.Rs (h:cS C N M) {v:Ev}:cS C (N+1) (M.Rs v):={h.mono (Nat.le_succ N) with log:=by show(M.log++[v]).length<=N+1;rw[List.length_append,List.length_singleton];have:=h.log;omega}
theorem nk {m:Mon} (h:gR C m) {g:Int} (a:m.has g):0<=(m.kP g).owner/\(m.kP g).owner<=4:=by
 refine h.own _ ?_;unfold Mon.has at a;unfold Mon.kP;grind
theorem T9 {m:Mon} (h:gR C m) {g:Nat} {x:dT} (c:0<=x.owner/\x.owner<=4):gR C (m.mZ g x):=
 ⟨by show(m.bX.set g x).length=_;rw[List.length_set];exact h.len,fun y a=>by
  rcases List.mem_or_eq_of_mem_set a with a|rfl;exact h.own y a;exact c,h.run⟩
theorem Lz {m:Mon} (h:gR C m) {g:Nat} {x:Option Mc.iK} (c:∀r,x=some r->(g:Int)<C.aG/\r.bL=g/\(r.phase=1\/r.phase=2)/\(0<=r.core/\r.core<C.aD)/\(0<=r.then'/\r.then'<=4)):gR C (m.dE g x):=
 ⟨h.len,h.own,fun k r a=>by
  unfold Mon.dE aI at a;dsimp only at a;split at a;grind;exact h.run k r a⟩
theorem gy {c w o t:Int}:0<=(hQ c w o t).1/\(hQ c w o t).1<=4:=by
 unfold hQ;grind
theorem Z6 {m:Mon} (h:gR C m) {a:Mc.Ask}:gR C (m.call C.aD a).1:=by
 unfold Mon.call;split;exact h;rename_i f;split;exact h;rename_i c;have c:m.has a.bL:=Decidable.not_not.1 c;split;exact h;split;exact h;dsimp only;split;exact h;have i:=h.len;have e:=c;unfold Mon.has at e;refine Lz (T9 h (x:=⟨(m.kP a.bL).owner,true⟩) (nk h c)) fun r g=>?_;cases g;refine⟨by omega,?_,.inl rfl,Decidable.not_not.1 f,gy⟩;show a.bL=_;omega
theorem Cq {m:Mon} (h:gR C m) {g c:Int}:gR C (m.dropped C.aD g c).1:=by
 unfold Mon.dropped;split;exact h;rename_i j;have j:m.has g:=Decidable.not_not.1 j;split;exact h;rename_i r f;split;exact h;split;exact h;unfold Mon.run at f;split at f;refine Lz h fun k i=>?_;cases i;obtain⟨a,b,c,d,e⟩:=h.run _ r f;refine⟨a,b,?_,d,e⟩;unfold iK.mC iK.heard;grind;cases f
theorem Ov {m:Mon} (h:gR C m) {g:Int}:gR C (m.over g).1/\∀u,(m.over g).2.1=some u->0<=u.core/\u.core<C.aD:=by
 unfold Mon.over;split;grind;split;grind;rename_i r f;split;grind;unfold Mon.run at f;split at f;obtain⟨a,b,c,d,e⟩:=h.run _ r f;exact⟨Lz (T9 h e) (fun r f=>by cases f),(fun u i=>by cases i;exact d)⟩;cases f
theorem Mi.oR {H:kO} (h:Mi C N H) {l:Nat} {x:kJ} (c:kH l x.1) (e:x.1.waits.length<=N+1):Mi C (N+1) (aI H l x):=by
 intro k a;unfold aI;split;grind;exact⟨(h k a).1,Nat.le_succ_of_le (h k a).2⟩
theorem Mi.mono {H:kO} {K:Nat} (h:Mi C N H) (c:N<=K):Mi C K H:=fun l a=>⟨(h l a).1,Nat.le_trans (h l a).2 c⟩
theorem H5 {H:kO} {l:Int} (h:Mi C N H):Mi C (N+1) (nR C H l).1:=by
 unfold nR;split;rename_i a;obtain⟨k,rfl⟩:=Int.eq_ofNat_of_zero_le a.1;have e:k<C.lines:=by have:=a.2;omega
 simp only[Int.toNat_natCast];obtain⟨c,f⟩:=h k e;refine h.oR (wF c rfl (by show(0:Int)<=0/\(0:Int)<4;omega) (.inl rfl)) ?_;show((H k).1.waits++[nN k]).length<=N+1;simp;omega;exact h.mono (Nat.le_succ N)
theorem il {H:kO} {n:aH} (hC:C.Ok) (h:Mi C N H):Mi C (N+1) (jX C H n).1:=by
 have t:=hC.1;unfold jX;split;exact h.mono (Nat.le_succ N);rename_i f;have f:hU n.kind:=Decidable.not_not.1 f;split;rename_i v;obtain⟨w,i⟩:=v;obtain⟨l,a⟩:=Int.eq_ofNat_of_zero_le i.1;have u:l<C.lines:=by have:=i.2;omega
 have e:n.line.toNat=l:=by omega
 simp only[e];obtain⟨j,k⟩:=h l u;have q:=V0 (x:=H l) j f a (by omega);rw[a];refine h.oR q ?_;by_cases c:n.kind=4;unfold kJ.take;rw[aCx c];split;grind;exact Nat.le_succ_of_le k;by_cases g:n.kind=5;unfold kJ.take;rw[aCw c,aCx g];split;grind;simp only[kJ.mK,R7,mG];omega;unfold kJ.take;rw[aCw c,aCw g];show((H l).1.waits++[n]).length<=N+1;simp;omega;exact h.mono (Nat.le_succ N)
theorem Xn {H:kO} {l:Int} {j:Int->Int×Bool} (h:Mi C N H):Mi C (N+1) (kK C H l j).1:=by
 unfold kK;split;rename_i i;obtain⟨k,rfl⟩:=Int.eq_ofNat_of_zero_le i.1;have q:k<C.lines:=by have:=i.2;omega
 simp only[Int.toNat_natCast];obtain⟨e,g⟩:=h k q;unfold kJ.begin;split;exact h.oR e (Nat.le_succ_of_le g);rename_i hb;cases hw:(H k).1.waits with
 |nil=>exact h.oR e (Nat.le_succ_of_le g)
 |cons n w=>
  simp only;have f:=e.waits n (by grind);obtain⟨a,b,c⟩:=Wb (m:=(H k).2) (j:=j) (vF e hw) (show((H k).1.next w).busy=false from(by simpa using hb:(H k).1.busy=false)) f.1 f.2.1 f.2.2;refine h.oR a ?_;rw[Pe];show w.length<=N+1;grind
 exact h.mono (Nat.le_succ N)
theorem W7 {H:kO} {g:Int} (h:Mi C N H):Mi C N (nY H g):=by
 intro l a;unfold nY;split;exact h l a;exact h l a
theorem Wk {n g:Int} (c:0<=n/\n<=16) (a:0<=g/\g<=100):0<=iP n g/\iP n g<=1000:=by unfold iP;omega
theorem Y9 {es:List dT} (t:es.length<=16) (i:∀x∈es,0<=x.owner/\x.owner<=4) {a:Int}:0<=(iX es a).1/\(iX es a).1<=1000000:=by
 have f:∀k,0<=(es.getD k gA).owner/\(es.getD k gA).owner<=4:=by
  intro k;rw[List.getD_eq_getElem?_getD];cases hk:es[k]? with
  |none=>show(0:Int)<=0/\(0:Int)<=4;omega
  |some x=>grind
 have c:∀w∈uP es,0<=w/\w<=1000000:=by
  intro w hw;unfold uP at hw;rcases List.mem_append.1 hw with hw|hw;obtain⟨j,e,rfl⟩:=List.mem_map.1 hw;have e:=List.mem_range.1 e;unfold p6;split;grind;have:=Wk (n:=es.length) (g:=((4*j:Nat):Int)) (by omega) (by omega);omega;obtain⟨x,q,rfl⟩:=List.mem_map.1 hw;have:=i x q;unfold Y4;split<;>omega
 unfold iX;split;simp_all;grind
theorem uL (h:cS C N M) {i:Nat} {v c:Int} (a:(i:Int)<C.aD):cS C (N+1) (M.aY i v c).1:=by
 unfold bY.aY;dsimp only;split;exact h.mono (Nat.le_succ N);exact(h.oS (Ws (h.Rq i a))).Rs
def KK (k:Int):Prop:=k=6\/k=7\/k=12\/k=13
theorem ti {l:List aH} (h:∀n∈l,n.kind≠12):∀n∈l,n.kind=12->0<=n.d0/\n.d0<=1000000:=fun n a e=>absurd e (h n a)
theorem noK {l:List aH} (h:∀n∈l,¬KK n.kind):∀n∈l,n.kind=12->0<=n.d0/\n.d0<=1000000:=ti fun n a e=>h n a (by unfold KK;omega)
theorem tz (h:cS C N M) {i:Nat} {a:Mc.Ask} (e:(i:Int)<C.aD):cS C (N+1) (M.call C i a).1:=by
 unfold bY.call;dsimp only;split;exact uL h e;split;exact h.mono (Nat.le_succ N);refine((h.gZ (uH h.jS (ti ?_))).kY (Z6 h.bC)).mono (Nat.le_succ N);intro n c;unfold tX at c;obtain⟨k,_,rfl⟩:=List.mem_map.1 c;show(13:Int)≠12;omega
theorem xc (h:cS C N M) {i:Nat} {g:Int} (a:(i:Int)<C.aD):cS C (N+1) (M.walk C i g).1:=by
 unfold bY.walk;dsimp only;split;exact h.mono (Nat.le_succ N);split;exact h.mono (Nat.le_succ N);refine((h.gZ (uH h.jS (ti ?_))).Mm (V8 (h.oU i a))).mono (Nat.le_succ N);intro n c;rw[List.mem_singleton.1 c];show(6:Int)≠12;omega
theorem iq {core:Int} {s:eM} {l w:Int} {wr:Bool}:∀n∈(want C core s l w wr).2.1,¬KK n.kind:=by
 intro n a;unfold want at a;split at a;cases a;split at a;cases a;split at a;cases a;split at a;cases a;unfold Um at a;split at a;simp only[Uw,List.nil_append,List.mem_singleton] at a;rw[a];unfold KK;grind;split at a;cases a;split at a;cases a;simp only[Uw,List.mem_append,List.mem_singleton] at a;rcases a with rfl|rfl;unfold KK;dsimp only;omega;unfold KK;grind
theorem w5 (h:cS C N M) {i:Nat} {l:Int} {wr:Bool} (a:(i:Int)<C.aD):cS C (N+1) (M.want C i l wr).1:=by
 unfold bY.want;dsimp only;split;exact h.mono (Nat.le_succ N);split;exact h.mono (Nat.le_succ N);exact((h.gZ (uH h.jS (noK iq))).Hj (Wr (h.gx i a))).mono (Nat.le_succ N)
theorem ve (h:cS C N M) {i:Nat} {l a o:Int} {x:Acc} (c:(i:Int)<C.aD):cS C (N+1) (M.sX C i l a o x).1:=by
 unfold bY.sX;dsimp only;refine uL (h.Hj ?_) c;have e:gO C (if x.read=true then pH C (M.dB i) l a o else M.dB i):=by
  split;exact Ib (h.gx i c);exact h.gx i c
 split;exact E0 e;exact e
theorem gf (h:cS C N M) {i:Nat} {a:Acc} (c:(i:Int)<C.aD):cS C (N+1) (M.access C i a).1:=by
 unfold bY.access;split;exact uL h c;dsimp only;split;exact h.mono (Nat.le_succ N);split;exact xc h c;split;exact uL h c;split;exact w5 h c;exact ve h c
theorem wm (h:cS C N M) {a:Int}:cS C (N+1) (M.step C a).1:=by
 unfold bY.step;split;exact h.mono (Nat.le_succ N);rename_i e;have e:0<=a/\a<C.aD:=Decidable.not_not.1 e;have c:((a.toNat:Nat):Int)<C.aD:=by omega
 dsimp only;split;exact h.mono (Nat.le_succ N);split;exact h.mono (Nat.le_succ N);split;rename_i r f;exact(h.oS (iy (h.Rq _ c) f)).Rs;split;exact tz h c;split;exact gf h c;exact h.mono (Nat.le_succ N)
theorem Lc {r:Row} {line:Int} {d:Ln}:∀n∈(r.eA line d).2,¬KK n.kind:=by
 intro n a;unfold Row.eA at a;have e:∀s,(r.mQ line s d).kind=8:=fun _=>rfl;unfold KK;grind
theorem Eb {line st:Int} {l:List Nat}:∀n∈eQ line st l,¬KK n.kind:=by
 intro n a;unfold eQ at a;obtain⟨k,_,rfl⟩:=List.mem_map.1 a;show ¬KK 11;unfold KK;omega
theorem uy {r:Row} {line:Int} {m:Ln}:∀n∈(r.rest line m).2,¬KK n.kind:=by
 intro n a;unfold Row.rest at a;have c:= @Lc;grind
theorem Ia {H:kO} {n:aH}:∀x∈(jX C H n).2.1,¬KK x.kind:=by
 intro x a;unfold jX at a;split at a;cases a;split at a;unfold kJ.take at a;split at a;split at a<;>cases a;split at a;split at a;cases a;exact uy x a;cases a;cases a
theorem yj {r:Row} {line:Int} {m:Ln} {n:aH} {w:Int}:∀x∈(r.get line m n w).2,¬KK x.kind:=by
 intro x a;unfold Row.get at a;dsimp only at a;split at a;unfold Row.getM at a;split at a;exact Eb x a;exact Lc x a;unfold Row.Ro at a;split at a;exact Eb x a;exact Lc x a
theorem G6 {H:kO} {l:Int} {j:Int->Int×Bool}:∀x∈(kK C H l j).2.1,¬KK x.kind:=by
 intro x a;unfold kK at a;split at a;unfold kJ.begin at a;split at a;cases a;split at a;cases a;dsimp only at a;unfold Row.begun at a;split at a;rw[List.mem_singleton.1 a];show ¬KK 10;unfold KK;omega;split at a;split at a;exact yj x a;rw[List.mem_singleton.1 a];show ¬KK 9;unfold KK;omega;split at a;cases a;exact Eb x a;cases a
theorem Td {core:Int} {s:eM} {n:aH}:∀x∈(mU C core s n).2.1,¬KK x.kind:=by
 intro x a;have e:∀y,(jF core n y).kind=5:=fun y=>by unfold jF;split<;>rfl
 unfold mU Me Tl Du Ff at a;repeat' split at a
 all_goals (unfold KK;grind)
theorem cS.take (h:cS C N M) (hC:C.Ok) (g:N<=2^29) {n:aH} (c:Xj C n):vu C M n:=by
 obtain⟨f,e⟩:=zX c.oU;have a:((n.core.toNat:Nat):Int)<C.aD:=by omega
 exact⟨e,h.bC,h.home.h (by omega),h.gx _ a,(h.oU _ a).len hC,(h.oU _ a).2,c.word⟩
theorem jq (h:cS C N M) (hC:C.Ok) {n:aH} (f:Xj C n):cS C (N+2) (M.hU C n).1/\∀x∈(M.hU C n).2.1,x.kind=12->0<=x.d0/\x.d0<=1000000:=by
 obtain⟨j,k⟩:=zX f.oU;have c:((n.core.toNat:Nat):Int)<C.aD:=by omega
 have q:=h.bC.len;have i:=hC.2.1;unfold bY.hU;split;exact⟨(h.Ao (Nat.le_succ N) (il hC h.home)).mono (Nat.le_succ _),noK Ia⟩;split;refine⟨(h.Hj (Iv ?_ (h.gx _ c))).mono (by omega),noK Td⟩;intro g;have:=Wm f.oU g;omega;split;refine⟨h.mono (by omega),fun x a _=>?_⟩;rw[List.mem_singleton.1 a];exact Y9 (by omega) h.bC.own;split;refine⟨(h.Mm (Vf hC (h.oU _ c))).mono (by omega),fun x a e=>?_⟩;dsimp only at a;split at a;cases a;rw[List.mem_singleton.1 a] at e;exact absurd e (by show(6:Int)≠12;omega);split;refine⟨(h.Mm (jw (h.oU _ c))).mono (by omega),fun x a e=>?_⟩;rw[List.mem_singleton.1 a] at e;exact absurd e (by show(7:Int)≠12;omega);split;refine⟨?_,fun x a _=>by cases a⟩;dsimp only;split;exact(h.kY (Cq h.bC)).Ao (by omega) (H5 (H5 h.home));exact(h.kY (Cq h.bC)).mono (by omega);exact⟨h.mono (by omega),fun x a _=>by cases a⟩
theorem Vw (h:cS C N M) (hC:C.Ok) {a b c:Int}:cS C (N+2) (M.vI C a b c).1:=by
 unfold bY.vI;dsimp only;split;exact h.mono (by omega);rename_i g;obtain⟨e,f⟩:=jq h hC (O7 (a:=a) (b:=b) (c:=c) h.jS (Decidable.not_not.1 g)).1;split;exact h.mono (by omega);split;exact h.mono (by omega);exact e.gZ (uH (Yn h.jS) f)
theorem kq (h:cS C N M) {a:Int}:cS C (N+2) (M.begin C a).1:=by
 unfold bY.begin;dsimp only;split;exact h.mono (by omega);split;exact h.mono (by omega);exact((h.gZ (uH h.jS (noK G6))).Ao (Nat.le_succ N) (Xn h.home)).mono (by omega)
theorem Yu (h:cS C N M) {a:Int}:cS C (N+2) (M.finish C a).1:=by
 obtain⟨c,e⟩:=Ov (g:=a) h.bC;unfold bY.finish;split;exact h.mono (by omega);split;exact h.mono (by omega);dsimp only;split;exact h.mono (by omega);rename_i u f;have i:=e u f;refine(uL (N:=N) ?_ (by omega)).mono (by omega);split;exact(h.kY c).Ao (Nat.le_refl N) (W7 h.home);exact h.kY c
theorem y9 (h:cS C N M) (hC:C.Ok) {d:Do}:cS C (N+2) (M.P7 C d).1:=by
 unfold bY.P7;split;exact(wm h).mono (by omega);split;exact Vw h hC;split;exact kq h;split;exact Yu h;exact h.mono (by omega)
end
end Go.Mc
section
open Go Go.Ab
attribute [local irreducible] bB Br ld1 A5 I7 Cd kT yC kI Xx qS zP Bo pT nL mH yV A1 Xb T1 P6 P5 Tb Uj Mx Tc W6 kQ tQ tE iB copyV kV V5 Vo W0 Ed iZ Rp Vn Uz lZ rG Ay yZ Cl C9 Ui qR qH iO eI bS bG
namespace Go.Proofs.YtmhapehobfnoiaaGreatDoor
open Go Go.Ab Go.Hm Go.At
section
set_option maxRecDepth 100000
variable {G:Bg} {h:AH} {L L':List HP} {Q:Value->AH->Prop}
theorem gz {C:bA} (hC:C.Ok) {mb l:Nat} {mem:Nat->Ln} (y:l<C.lines) (e:Hs G h (fY G C.lines mb C mem::L)):
  ∃(b o cap:Nat) (r w:Int) (f g k:Nat) (H:HP),Hs G h (aR mb 0 (C.enc++[.slice (some ⟨b,o,none⟩) C.aK.toNat cap])::aR b (o+(l % C.aK.toNat)*3) [I r,I w,.slice (some ⟨f,g,none⟩) (hM C.lines C.aK.toNat (l % C.aK.toNat)) k]::aR f (g+l/C.aK.toNat*2) (gU (mem l))::H::L)/\
   ∀v q M,Hs G q (aR mb 0 (C.enc++[.slice (some ⟨b,o,none⟩) C.aK.toNat cap])::aR b (o+(l % C.aK.toNat)*3) [I r,I w,.slice (some ⟨f,g,none⟩) (hM C.lines C.aK.toNat (l % C.aK.toNat)) k]::aR f (g+l/C.aK.toNat*2) (gU v)::H::M)->Hs G q (fY G C.lines mb C (aI mem l v)::M):=by
 have hb:=bA.bk hC
 obtain⟨b,o,cap,e⟩:=zI e
 have e:=(e.front (hJ C.aK.toNat fun i=>iS C.lines C.aK.toNat b (o+i*3) i mem)).pW (l % C.aK.toNat) (Nat.mod_lt _ hb.2.1)
 obtain⟨r,w,a,k,e⟩:=Bv e
 have t:=J1 hb.2.1 y
 obtain⟨f,g,rfl,H,e,j⟩:=Hs.so (T6 (B:=C.aK.toNat) (i:=l % C.aK.toNat) (mem:=mem)) t (e.front (fT 2 68 a k (hM C.lines C.aK.toNat (l % C.aK.toNat),(List.range (hM C.lines C.aK.toNat (l % C.aK.toNat))).flatMap (O0 C.aK.toNat (l % C.aK.toNat) mem))))
 rw[az hb.2.1] at e
 refine⟨b,o,cap,r,w,f,g,k,sp [H,sp (((List.range C.aK.toNat).erase (l % C.aK.toNat)).map fun i=>iS C.lines C.aK.toNat b (o+i*3) i mem),hole G 3 245 (some ⟨b,o,none⟩) cap C.aK.toNat b o],e.to,?_⟩
 intro v q M e
 have e:=(e.front (sp [H,sp (((List.range C.aK.toNat).erase (l % C.aK.toNat)).map fun i=>iS C.lines C.aK.toNat b (o+i*3) i mem),hole G 3 245 (some ⟨b,o,none⟩) cap C.aK.toNat b o])).Gq
 have e:=j _ _ _ rfl rfl (e.cY (aR f (g+l/C.aK.toNat*2) (gU v)) H)
 rw[Tj hb.2.1] at e
 have e:=sS (e.sg (b:=b) (o:=o+l % C.aK.toNat*3) (c:=[I r,I w,.slice (some ⟨f,g,none⟩) (hM C.lines C.aK.toNat (l % C.aK.toNat)) k]) rfl)
 exact wI (b:=b) (o:=o) (cap:=cap) ((e.Bz (n:=C.aK.toNat) (i:=l % C.aK.toNat) (fun i=>iS C.lines C.aK.toNat b (o+i*3) i mem) (fun i=>iS C.lines C.aK.toNat b (o+i*3) i (aI mem l v)) (Nat.mod_lt _ hb.2.1) (fun i z u=>by simp only[iS,s8 z u])).to)
theorem nr {C:bA} (hC:C.Ok) {mb w:Nat} {mem:Nat->Ln} (q:Ob G 0 jK) (a:Hs G h (fY G C.lines mb C mem::L)) (y:w<C.lines*2)
  (u:∀(f g:Nat) (H:HP) c,Hs G c (aR f g (gU (mem (w/2)))::H::L)->(∀v c M,Hs G c (aR f g (gU v)::H::M)->Hs G c (fY G C.lines mb C (aI mem (w/2) v)::M))->Q (.tuple ⟨[pt f g (0+w % 2*1),I 0]⟩) c):Cl Pr K 94 [pt mb 0 0,I w] h Q:=by
 have hb:=bA.bk hC
 have i:w/2<C.lines:=by omega
 obtain⟨b,o,cap,r,t,f,g,k,H,a,e⟩:=gz hC i a
 refine cW (fM (dO (bW (aN (aC (an mb a (l:=C.enc) rfl rfl (Xk hC q a fun h a=>?_)))))))
 rw[aac]
 refine bV rfl (bV rfl (bV rfl (cZ (aab (bW ?_)))))
 rw[Int.toNat_natCast]
 refine J6 hC q a i fun h a=>bV rfl (bV rfl (bV rfl (cZ (aab (aN (aC (aS (b:=b) (o:=o+(w/2) % C.aK.toNat*3) a rfl ?_)))))))
 have j:=J1 hb.2.1 i
 refine fN j (vJ (by omega) ?_)
 refine u _ _ (sp [aR mb 0 (C.enc++[.slice (some ⟨b,o,none⟩) C.aK.toNat cap]),aR b (o+(w/2 % C.aK.toNat)*3) [I r,I t,.slice (some ⟨f,g,none⟩) (hM C.lines C.aK.toNat (w/2 % C.aK.toNat)) k],H]) _ a.to fun v c M a=>?_
 have a:=(a.front (sp [aR mb 0 (C.enc++[.slice (some ⟨b,o,none⟩) C.aK.toNat cap]),aR b (o+(w/2 % C.aK.toNat)*3) [I r,I t,.slice (some ⟨f,g,none⟩) (hM C.lines C.aK.toNat (w/2 % C.aK.toNat)) k],H])).Gq
 exact e v c M a.to
theorem H7 {C:bA} (hC:C.Ok) {mb w:Nat} {v:Int} {mem:Nat->Ln} (q:Ob G 0 jK) (a:Hs G h L) [m:Has (fY G C.lines mb C) L mem L'] (k:w<C.lines*2)
  (i:∀g,Hs G g (fY G C.lines mb C (oC mem w v)::L')->Q (I 0) g):Cl Pr K 40 [pt mb 0 0,I w,I v] h Q:=by
 refine cW (nr hC q (m.of a) k fun f j H h a c=>bV rfl (bV rfl (cZ (aab (bW (aN ?_))))))
 have e:w % 2=0\/w % 2=1:=by omega
 rcases e with e|e
 .rw[e];refine ax (b:=f) (o:=j) a fun h a=>?_;have a:=c (v,(mem (w/2)).2) _ _ a;have:=i _ (by unfold oC;rw[aCx e];exact a);exact this
 .rw[e];refine ax (b:=f) (o:=j) a fun h a=>?_;have a:=c ((mem (w/2)).1,v) _ _ a;have:=i _ (by unfold oC;rw[aaa];exact a);exact this
end
end Go.Proofs.YtmhapehobfnoiaaGreatDoor
end
