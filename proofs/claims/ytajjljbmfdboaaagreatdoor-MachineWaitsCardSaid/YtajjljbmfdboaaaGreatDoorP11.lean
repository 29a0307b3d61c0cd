/- A part of the proof. -/
import Derived.Test.YtajjljbmfdboaaaGreatDoorP6
import Derived.Test.YtajjljbmfdboaaaGreatDoorP9
import Derived.Test.YtajjljbmfdboaaaGreatDoorP10
import Derived.KernelRfl
import Derived.Test.YtajjljbmfdboaaaGreatDoorP8
import Derived.Lib.ItoaNum
import Derived.Lib.Bytes
section
namespace Go.Proofs.YtajjljbmfdboaaaGreatDoor
open Go Go.Ab
set_option maxRecDepth 100000
noncomputable def K:FuncId→List Value→Option gX:=fc K0 25 (.bool true)
abbrev n_:FT:=⟨[],[],false,0,[]⟩
def tb0:List FT:=[n_,n_,n_,n_,n_,n_,n_,n_,⟨[(2,[0,1]),(14,[1,2]),(124,[1,2,5]),(2000,[1,2,5,7]),(4004,[1,2,5,7]),(126,[2,5]),(1020,[2,5,8]),(16336,[2,5,8,9]),(65352,[2,5,8,9]),(522828,[2,5,8,9,10,11]),(8365264,[2,5,8,9,10,11,12]),(66922128,[2,5,8,9,10,11,12]),(522830,[2,5,8,9,10]),(8365267,[2,5,8,9,10,11,12]),(66922130,[2,5,8,9,10,11,12]),(16339,[2,5,8,9]),(535377050,[2,5,8,9,10,12,13]),(267688526,[2,5,8,9,10,11,12,13])],[],false,172036,[(25,[(14,17)])]⟩,⟨[(2,[0,1]),(14,[1,2]),(124,[1,2,5]),(2000,[1,2,5,7]),(8008,[1,2,5,7]),(2050512,[1,2,5,7,8,9,10,11]),(8202056,[1,2,5,7,8,9,10,11]),(128158,[1,2,5,7,8,9,10]),(16404464,[1,2,5,7,8,9,10,12,13,14]),(65617864,[1,2,5,7,8,9,10,12,13,14]),(2003,[1,2,5,7]),(524942926,[1,2,5,7,8,9,10,12,13,14,15,17]),(16404467,[1,2,5,7,8,9,10,12,13,14])],[],false,34564,[]⟩,n_,n_,n_,n_,n_,⟨[(2,[0,1]),(14,[0,1]),(488,[0,1,6,13,14,15]),(7832,[0,1,6,13,14,15]),(31334,[0,1,6,7,8,13,14,15]),(1959,[0,1,6,13,14,15])],[],false,41280,[]⟩]
def tb1:List FT:=[⟨[(2,[0,1]),(28,[0,1,4])],[],false,16,[]⟩,⟨[(2,[0,11]),(30,[2,3,11]),(500,[4,11])],[(250,[4,11])],true,48,[]⟩,n_,⟨[(2,[0])],[],false,0,[]⟩,⟨[(2,[0,1,15]),(28,[2,3,4,15]),(116,[2,3,4,15])],[(58,[2,3,4,15])],true,84,[]⟩,n_,n_,n_,n_,⟨[(2,[]),(124,[2]),(2000,[2,4]),(8008,[2,4]),(126,[2]),(512592,[2,4,5]),(1025188,[2,4,5]),(16019,[2,4])],[],false,66,[]⟩,n_,n_,n_,n_,⟨[(2,[0]),(208,[1,3]),(840,[1,3]),(211,[1,3])],[],false,2,[]⟩,⟨[(2,[0]),(14,[1]),(488,[1,6,39,40]),(7832,[1,6,39,40]),(62,[1,6]),(62670,[1,6,7,8,39,40]),(508,[1,6]),(250686,[1,6,8,10,39,40]),(4072,[1,6,128,129,130]),(1002750,[1,6,8,10,11,39,40]),(65176,[1,6,128,129,130]),(1020,[1,6]),(16295,[1,6,128,129,130]),(2044,[1,6])],[],false,1701411834604692317316873038258352685058,[]⟩]
def tb2:List FT:=[⟨[(2,[0,1,2,3,4]),(28,[1,2,3,4,5]),(60,[1,2,3,4,5]),(488,[1,2,3,4,5,56,57,58]),(7832,[1,2,3,4,5,56,57,58]),(124,[1,2,3,4,5]),(1959,[1,2,3,4,5,56,57,58]),(126,[1,2,3,4,5]),(1020,[1,2,3,4,5,17]),(8168,[1,2,3,5,17,87,88,89]),(130712,[1,2,3,5,17,87,88,89]),(1022,[1,2,3,5,17]),(32679,[1,2,3,5,17,87,88,89]),(32744,[1,2,22,115,116]),(523928,[1,2,22,115,116])],[],false,83076750510269766970138583269113888,[(25,[(0,10),(1,10),(2,10),(6,5)])]⟩,n_,n_,n_,⟨[(2,[0,1,2]),(28,[0,1,2]),(30,[0,1,2])],[],false,0,[]⟩,⟨[(2,[0]),(30,[0,2,4]),(4052,[0,2,4,6,7]),(4054,[0,2,4,6,7,26]),(16220,[0,2,4,6,7]),(16222,[0,2,4,6,7,26]),(254,[0,2,6,7]),(64894,[0,2,4,6,7,26]),(259580,[0,2,4,6,7]),(259582,[0,2,4,6,7,26]),(1038326,[0,2,4,6,7]),(1038327,[0,2,6,7]),(1038332,[0,2,4,6]),(1038334,[0,2,4,6,7,26]),(4153340,[0,2,4,6,7]),(16613366,[0,2,4,6])],[],false,67108948,[]⟩,⟨[(2,[0,1,2]),(14,[0,1,2,6]),(124,[0,1,2,6,8]),(126,[0,1,2,6,8]),(8164,[0,2,6,8,10]),(8166,[0,1,2,6,8,10]),(1022,[0,6,10]),(32670,[0,1,6,8,10]),(65342,[0,6,8,10]),(130686,[0,1,6,8,10])],[],false,1344,[(9,[(8,12)])]⟩,⟨[(2,[0])],[],false,4,[]⟩,⟨[(2,[0])],[],false,0,[]⟩,⟨[(2,[0]),(30,[0,2,4]),(16002,[2,6]),(256004,[0,2,4,6,31]),(2001,[0,2,4,6]),(256006,[0,2,4,6,31]),(2004,[0,2,4,6])],[],false,2147483732,[]⟩,⟨[(2,[0])],[],false,20,[]⟩,n_,n_,n_,n_,n_]
def tb3:List FT:=[n_,n_,⟨[(2,[0])],[],false,0,[]⟩,n_,n_,⟨[(2,[])],[],false,1,[]⟩,n_,n_,n_,⟨[(2,[0,1,20]),(436,[2,5,20])],[(218,[2,5,20])],true,36,[]⟩,⟨[(2,[0])],[],false,0,[]⟩,⟨[(2,[0,1])],[],false,16,[]⟩,n_,n_,n_,⟨[(2,[0])],[],false,2,[]⟩]
def tb4:List FT:=[n_,n_,n_,n_,n_,n_,n_,⟨[(2,[0]),(58,[0,3])],[],false,8,[]⟩,⟨[(2,[0,1]),(28,[0,1,4])],[],false,16,[]⟩,n_,n_,n_,⟨[(2,[0]),(14,[0]),(488,[3,27,28]),(7832,[3,27,28])],[],false,268435456,[(3,[(5,4),(5,17),(6,4),(6,17),(7,4),(7,17),(8,4),(8,17),(9,4),(10,4),(11,4),(12,4)]),(7,[(0,16),(1,16),(2,16),(3,16),(4,16)])]⟩,⟨[(2,[0,26]),(14,[1,2,26]),(244,[1,3,26])],[(122,[1,3,26])],true,10,[(3,[(5,4),(6,4),(7,4),(8,4),(9,4),(10,4),(11,4),(12,4)])]⟩,⟨[(2,[0]),(14,[0]),(488,[3,19,20]),(7832,[3,19,20]),(125336,[3,4,19,20,24,25]),(2005400,[3,4,19,20,24,25]),(1959,[3,19,20])],[],false,34603040,[(10,[(0,9),(1,9),(2,9),(5,4),(6,4),(7,4)])]⟩,n_]
def tb5:List FT:=[⟨[(2,[0]),(14,[0])],[],false,8,[]⟩,⟨[(2,[0]),(14,[0])],[],false,8,[]⟩,n_,⟨[(2,[0,1]),(28,[1,2]),(30,[1,2])],[],false,4,[]⟩,⟨[(2,[0,1])],[],false,0,[]⟩,⟨[(2,[0]),(14,[1]),(62,[1,5]),(2024,[7,33,34]),(32408,[7,33,34])],[],false,17179869186,[(7,[(0,8),(1,8)])]⟩,⟨[(2,[0,1,2]),(30,[2,7])],[],false,0,[]⟩,⟨[(2,[0,1]),(28,[0,1]),(232,[0,1,30,31,32]),(3736,[0,1,30,31,32]),(30,[0,1]),(935,[0,1,30,31,32]),(126,[0,1,8]),(4072,[10,57,58,59]),(65176,[10,57,58,59]),(16295,[10,57,58,59])],[],false,720575945747988480,[]⟩,⟨[(2,[0]),(14,[1]),(488,[1,5,19,20]),(7832,[1,5,19,20]),(125336,[1,5,6,19,20,23]),(2005400,[1,5,6,19,20,23]),(1959,[1,5,19,20]),(8021607,[1,5,6,7,8,19,20,23])],[],false,9437186,[]⟩,⟨[(2,[0]),(1768,[3,4,22,23]),(28312,[3,4,22,23]),(226508,[]),(7079,[3,4,22,23])],[],false,8388618,[]⟩,⟨[(2,[0])],[],false,0,[]⟩,⟨[(2,[0]),(28,[0]),(232,[0,10,11,12]),(3736,[0,10,11,12]),(935,[0,10,11,12])],[],false,5152,[]⟩,⟨[(2,[0,1,2]),(104,[0,1,9,10,11]),(1688,[0,1,9,10,11]),(423,[0,1,9,10,11])],[],false,2560,[]⟩,⟨[(2,[0]),(14,[1]),(488,[1,5,20,21]),(7832,[1,5,20,21])],[],false,2097154,[]⟩,⟨[(2,[0])],[],false,0,[]⟩,⟨[(2,[0])],[],false,0,[]⟩]
def tb6:List FT:=[⟨[(2,[0,1])],[],false,0,[]⟩,n_,⟨[(2,[0,1])],[],false,0,[]⟩,⟨[(2,[0,1])],[],false,16,[]⟩,⟨[(2,[0,1])],[],false,0,[]⟩,n_,n_,n_,n_,n_,n_,n_,n_,n_,⟨[(2,[0,1]),(14,[0,3]),(124,[0,3,5]),(252,[0,3,5]),(2028,[0,6]),(508,[0,3,5]),(510,[0,3,5])],[],false,1352,[(10,[(0,10)])]⟩,⟨[(2,[0,1]),(62,[0,5,6]),(508,[0,5,8,9]),(510,[0,5,9])],[],false,72,[]⟩]
def tb7:List FT:=[⟨[(2,[0,1]),(124,[0,5,6]),(126,[0,5])],[],false,0,[]⟩,⟨[(2,[0,1]),(28,[0,3]),(30,[0,3]),(252,[0,5]),(506,[0,5])],[],false,40,[(5,[(9,13)])]⟩,n_,⟨[(2,[0,1,2])],[],false,0,[]⟩,n_,n_,⟨[(2,[0])],[],false,0,[]⟩,⟨[(2,[0,1])],[],false,0,[]⟩,⟨[(2,[0,1])],[],false,0,[]⟩,⟨[(2,[0,1]),(14,[0,1]),(250,[5,6]),(252,[5,6]),(2024,[6,36,37,38]),(32408,[6,36,37,38]),(129638,[6,36,37,38]),(8103,[6,36,37,38])],[],false,343597383936,[]⟩,⟨[(2,[0])],[],false,0,[]⟩,⟨[(2,[0])],[],false,0,[]⟩,n_,⟨[(2,[0,1])],[],false,0,[]⟩,n_,n_]
def tb8:List FT:=[n_,n_,n_,⟨[(2,[0])],[],false,0,[]⟩,⟨[(2,[0,1]),(24,[0,5,6,7]),(408,[0,5,6,7]),(103,[0,5,6,7])],[],false,176,[]⟩,n_,n_,n_,n_,⟨[(2,[0]),(14,[0]),(488,[3,22,23]),(7832,[3,22,23])],[],false,8388608,[(3,[(0,12),(1,12),(2,12),(3,12)]),(7,[(0,16),(1,16),(2,16),(3,16),(4,16)])]⟩,⟨[(2,[0])],[],false,0,[]⟩,⟨[(2,[0])],[],false,0,[]⟩,⟨[(2,[0])],[],false,0,[]⟩,⟨[(2,[0])],[],false,0,[(3,[(0,12),(1,12),(2,12),(3,12)])]⟩,⟨[(2,[0]),(14,[0]),(488,[3,23,24,25]),(7832,[3,23,24,25])],[],false,41943040,[(7,[(0,8),(1,8),(2,8),(3,8),(4,8)])]⟩,⟨[(2,[0,1])],[],false,0,[]⟩]
def tb9:List FT:=[⟨[(2,[0,1]),(14,[0,1]),(62,[0,6,7])],[],false,0,[]⟩,⟨[(2,[0])],[],false,0,[]⟩,⟨[(2,[0,1,2]),(28,[0,1,5]),(30,[0,1,5])],[],false,32,[]⟩,⟨[(2,[0])],[],false,0,[]⟩,⟨[(2,[0,1,14,15]),(26,[2,3,4,14,15]),(1768,[3,5,14,15])],[(442,[3,5,14,15])],true,36,[]⟩,n_,n_,n_,⟨[(2,[0,1])],[],false,0,[]⟩,⟨[(2,[0,1,2]),(30,[0,5,7]),(1000,[0,5,7,10,34,35]),(16024,[0,5,7,10,34,35]),(252,[0,7,10]),(254,[0,7])],[],false,34359738400,[]⟩,⟨[(2,[0,1,2]),(30,[0,1,5,7,8]),(126,[0,1,5,7,8,10]),(1020,[0,1,5,7,8,10,11]),(16342,[0,1,5,7,8,10,69]),(1022,[0,1,5,7,8,10]),(4094,[0,1,5,7,8,12]),(65524,[0,1,5,7,8,12]),(32764,[0,1,5,7,8,12,13]),(131060,[0,1,5,7,8,12,13])],[],false,590295810358705651744,[]⟩,⟨[(2,[0,1,2,3]),(14,[0,1,2,3,8])],[],false,256,[]⟩,⟨[(2,[0,1,48]),(53,[2,3,27,28,48]),(422,[2,3,27,48]),(212,[2,3]),(428,[2,3,27,28]),(1694,[2,3,27,48]),(215,[2,3,27,28,48]),(1718,[2,3,27,28]),(6782,[2,3,27,48]),(860,[2,3]),(862,[2,3,27]),(6878,[2,3,27,28]),(13567,[2,3,27]),(3452,[2,3]),(3454,[2,3,27]),(13759,[2,3,27]),(13820,[2,3]),(13822,[2,3,27]),(442298,[2,3,15,16,18,19]),(55292,[2,3]),(55294,[2,3,27]),(221180,[2,3])],[],false,160466060,[]⟩,⟨[(2,[0,1]),(28,[0,1]),(232,[0,1,20,21,22]),(3736,[0,1,20,21,22]),(30,[0,1]),(935,[0,1,20,21,22]),(1000,[0,1,8,36,37,38]),(16024,[0,1,8,36,37,38]),(252,[0,1]),(128206,[0,1,8,10,11,36,37,38]),(2024,[0,73,74,75]),(4007,[0,1,8,36,37,38]),(32408,[0,73,74,75]),(259278,[0,14,15,73,74,75]),(8103,[0,73,74,75])],[],false,47223678339838936892736,[(18,[(0,12),(1,12),(2,12),(3,12),(4,12),(5,12)]),(27,[(5,4)])]⟩,⟨[(2,[0,1,2]),(28,[0,1,2]),(60,[0,1,2]),(62,[0,1,2]),(508,[0,1,2,8]),(510,[0,1,2,8]),(130984,[0,1,8,9]),(130988,[0,1,2,8,9,51]),(261970,[0,1,8,9]),(130986,[1,8,9]),(65495,[0,1,2,8,9,82]),(261979,[0,1,2,8,9,51]),(261980,[0,1,2,9]),(8188,[0,1,2,8,9,82]),(8190,[1,8,9])],[],false,2251799813685760,[(28,[(1,8),(2,8)])]⟩,⟨[(2,[0,1]),(28,[0,1,4]),(30,[0,1,4]),(252,[0,1,4,8]),(254,[0,1,4,8])],[],false,272,[]⟩]
def aEu:List FT:=[⟨[(2,[0,1,26]),(28,[1,2,4,26]),(60,[1,2,4,26]),(244,[2,4,26])],[(122,[2,4,26])],true,20,[]⟩,⟨[(2,[0,1,2,3]),(30,[0,9])],[],false,512,[(4,[(0,10)])]⟩,⟨[(2,[0,1]),(24,[0,5,6,7]),(408,[0,5,6,7]),(103,[0,5,6,7])],[],false,176,[]⟩,n_,n_,n_,⟨[(2,[0,1]),(24,[0,5,6,7]),(408,[0,5,6,7]),(103,[0,5,6,7])],[],false,160,[]⟩,⟨[(4,[0,1,2]),(6,[0,2]),(56,[0,2,18]),(920,[0,2,18]),(231,[0,2,18])],[],false,262144,[]⟩,⟨[(2,[0])],[],false,0,[]⟩,⟨[(2,[0])],[],false,0,[]⟩,n_,n_,n_,n_,⟨[(2,[0])],[],false,0,[]⟩,⟨[(2,[0])],[],false,0,[]⟩]
def aE5:List FT:=[n_,⟨[(2,[0,1]),(14,[0,1])],[],false,0,[]⟩,⟨[(2,[0])],[],false,0,[]⟩,⟨[(2,[0])],[],false,0,[]⟩,⟨[(2,[0])],[],false,0,[]⟩,⟨[(2,[0])],[],false,0,[]⟩,⟨[(2,[0,1])],[],false,0,[]⟩,⟨[(2,[0])],[],false,0,[]⟩,⟨[(2,[0])],[],false,0,[]⟩,⟨[(2,[0])],[],false,0,[]⟩,⟨[(2,[0,1,2]),(214,[1,2,7]),(862,[1,2,7]),(3454,[1,2,7]),(13822,[1,2,7])],[],false,128,[]⟩,n_,⟨[(2,[0,1,2]),(437,[0,1,5,8,22]),(3494,[0,1,5,8,21]),(3496,[0,1,5,8]),(6991,[0,1,5,8,21]),(3498,[0,1,5,8]),(13998,[0,1,5,8,9]),(111994,[0,1,5,8,9,11]),(111996,[1,5,9,11]),(223994,[1,5]),(223995,[1,5,9,11])],[],false,2097184,[]⟩,n_,⟨[(2,[0,1,48]),(28,[2,3,4,5,48]),(30,[2,3,4,5,48]),(252,[2,3,4,5,6,48]),(508,[2,3,4,5,6,48]),(2036,[2,3,4,5,48]),(4092,[2,3,4,5,6,9,10]),(4094,[2,3,4,5,9,10]),(131048,[2,3,4,5,12,98,99]),(2096792,[2,3,4,5,12,98,99]),(16382,[2,3,4,5,12])],[(1018,[2,3,4,5,48])],true,633825300114114700748351606908,[(5,[(9,13)])]⟩,⟨[(2,[0,1])],[],false,0,[]⟩]
def aEd:List FT:=[⟨[(2,[0,1,2]),(28,[0,1,2]),(30,[0,1,2]),(998,[0,1,8])],[],false,0,[]⟩,⟨[(2,[0,1,2]),(124,[0,1,7,8]),(126,[0,1,7])],[],false,0,[]⟩,⟨[(2,[0,1,2,18,19]),(872,[5,7,18,19])],[(218,[5,7,18,19])],true,128,[]⟩,⟨[(2,[0,1,2,3]),(14,[0,1,2,3])],[],false,512,[]⟩,⟨[(2,[0,1,2,3]),(124,[0,1,9,10]),(126,[0,1,9])],[],false,0,[]⟩,⟨[(2,[0,1,2,3]),(14,[0,1,2])],[],false,2048,[]⟩,⟨[(2,[0,1,2,3,4]),(14,[0,1,2,4]),(124,[0,1,2,4,12]),(126,[0,1,2,4,12])],[],false,4096,[]⟩,⟨[(2,[0,1]),(52,[0,1,4]),(54,[0,1,4]),(442,[0,4,6]),(222,[0,4,6]),(28648,[0,4,6,7,8,40,41,42]),(458392,[0,4,6,7,8,40,41,42]),(3582,[0,4,7,8]),(7334292,[0,4,6,7,8,10,40,41,42]),(916787,[0,4,6,7,8,10,40,41,42])],[],false,5497558140048,[]⟩,⟨[(2,[0,1]),(28,[0,3]),(117,[0,3,11]),(934,[0,3,10]),(60,[0,3,11]),(3742,[0,3,10]),(62,[0,3]),(14974,[0,3,10]),(8104,[3,6]),(4054,[0,3,6,45]),(29951,[0,3,10]),(4053,[6]),(32440,[0,3,6]),(8111,[3,6])],[],false,35184372089864,[(14,[(0,10)])]⟩,n_,⟨[(2,[0,1]),(28,[0,3]),(232,[0,3,10,11,12]),(3736,[0,3,10,11,12]),(935,[0,3,10,11,12]),(29900,[0,3,7])],[],false,5256,[]⟩,n_,⟨[(2,[0,1]),(14,[0,1])],[],false,0,[]⟩,n_,⟨[(2,[0,1,2]),(28,[0,1,2]),(60,[0,1,2]),(62,[0,1,2]),(508,[0,1,2,9]),(2036,[0,9]),(510,[0,1,2,9]),(4092,[0,6,7,9,10]),(8186,[0,9,10]),(8188,[0,6,7,10]),(32756,[0,6]),(8190,[0,10])],[],false,1024,[(14,[(15,22),(16,22)])]⟩,⟨[(1,[0,1,2])],[],false,0,[]⟩]
def aEc:List FT:=[⟨[(2,[0,1]),(28,[0,3]),(30,[0,3]),(1018,[0,7])],[],false,72,[]⟩,⟨[(1,[0,1,2])],[],false,0,[]⟩,⟨[(2,[0,1,2]),(28,[0,1,2]),(30,[0,1,2]),(252,[0,1,2,10]),(254,[0,1,2,10]),(4090,[0,1,10,11]),(2046,[0,1,10,11])],[],false,1024,[]⟩,n_,⟨[(2,[0,1,11]),(28,[2,11])],[(14,[2,11])],true,4,[]⟩,⟨[(2,[0,1,22]),(52,[2,3,4,22]),(54,[2,3,4,22]),(3572,[2,3,5,6,22])],[(1786,[2,3,5,6,22])],true,108,[]⟩,⟨[(2,[0])],[],false,0,[]⟩,⟨[(2,[0,1,2])],[],false,0,[]⟩,⟨[(2,[0,1]),(28,[0,1]),(30,[0,1])],[],false,0,[]⟩,⟨[(2,[0,1,2]),(30,[5,7,8])],[],false,1048576,[]⟩,⟨[(2,[0,1])],[],false,0,[]⟩,n_,⟨[(2,[0,1,2,3]),(488,[0,1,7,9]),(124,[0,1,7,9]),(250,[0,1,9]),(252,[0,1,9])],[],false,128,[(2,[(1,10),(2,10),(2,13),(3,10),(4,10),(4,13)])]⟩,⟨[(2,[0,1,20]),(872,[0,1,5,11,12,20]),(13976,[0,1,5,11,12,20]),(3495,[0,1,5,6,11,12,20]),(447276,[0,1,5,6,7,11,12]),(223639,[0,1,5,6,11,12,20]),(894555,[0,1,5,6,11,12]),(894556,[6])],[],false,4096,[]⟩,⟨[(2,[0,1,2,3,12]),(116,[4,5,6,9,12])],[(58,[4,5,6,9,12])],true,512,[]⟩,⟨[(2,[0,1])],[],false,0,[]⟩]
def aF3:List FT:=[n_,⟨[(2,[0,1,7]),(52,[2,7])],[(26,[2,7])],true,4,[]⟩,⟨[(2,[0,1,2,3]),(112,[0,1,2,3,8,9]),(908,[0,1,2,3,8,9,10]),(1820,[0,1,2,3,8,9,10]),(7284,[0,1,2,3,8,9,10]),(1822,[0,1,2,3,8,9,10]),(29172,[0,1,2,3,8,9,10,11]),(14588,[0,1,2,3,8,9,10,11,12]),(58356,[0,1,2,3,8,9,10,11]),(29180,[0,1,2,3,8,9,10,11]),(116724,[0,1,2,3,8,9,11]),(29182,[0,1,2,3,10,11]),(1867772,[0,1,2,3,9,14,16,18]),(1867774,[0,1,2,3,9,14,17,18])],[],false,0,[]⟩,n_,n_,n_,n_,n_,n_,n_,n_,n_,⟨[(2,[0]),(52,[0]),(28,[0,2]),(116,[0,2])],[],false,0,[]⟩,⟨[(2,[0]),(52,[0]),(28,[0,2]),(116,[0,2]),(60,[0,2]),(244,[0,2])],[],false,0,[]⟩,⟨[(2,[0,1])],[],false,4,[]⟩,⟨[(2,[0,1]),(24,[0,1,11,12]),(408,[0,1,11,12]),(103,[0,1,11,12])],[],false,4096,[]⟩]
def aE3:List FT:=[⟨[(2,[0,1,2]),(30,[0,1,7])],[],false,0,[]⟩,⟨[(2,[0,1,2,3]),(28,[0,1,2,3]),(1872,[1,2,3]),(470,[1,2,3,21]),(7494,[2,3]),(7536,[1,2]),(1886,[1,2,3,21]),(29982,[3]),(30150,[1,2]),(30192,[1,2,3]),(7550,[1,2,21]),(120774,[2,3]),(120816,[1,2]),(483270,[1,2])],[],false,2097152,[]⟩,⟨[(2,[0,1])],[],false,0,[]⟩,⟨[(2,[0,1])],[],false,0,[]⟩,⟨[(2,[0,1]),(28,[0,1]),(60,[0,1]),(124,[0,1]),(126,[0,1]),(510,[0,1,6])],[],false,0,[]⟩,⟨[(2,[0,1]),(60,[4,6,7])],[],false,16,[]⟩,⟨[(2,[0,1])],[],false,4,[]⟩,⟨[(2,[0,1,2,3]),(102,[0,1,2,3]),(414,[0,1,2,3]),(1662,[0,1,2,3]),(28,[0,1,2,3]),(30,[0,1,2,3]),(508,[0,1,2,3,12,13,14]),(4072,[0,1,2,3,12,13]),(510,[0,1,2,3,12]),(4074,[0,1,2,3,12,13]),(8186,[0,1,2,12]),(16302,[0,1,2,3,12,13,16])],[],false,66560,[(23,[(0,15),(1,15),(2,15),(3,15),(4,15),(5,15),(6,15),(7,15),(8,15),(9,15)])]⟩,⟨[(2,[0,1,2,3,4]),(102,[0,1,2,3,4]),(414,[0,1,3,4])],[],false,0,[]⟩,⟨[(2,[0,1])],[],false,16,[(4,[(0,5)])]⟩,⟨[(2,[0]),(28,[0])],[],false,0,[]⟩,⟨[(2,[0,1,2]),(60,[0,1,5,7,8]),(122,[0,1,5,7,8]),(124,[0,1,5,7]),(126,[1,5,7])],[],false,0,[(8,[(0,10)])]⟩,⟨[(2,[0])],[],false,0,[]⟩,⟨[(2,[0,1]),(7684,[0,3,5]),(30722,[0,3,5]),(30742,[0,3,5]),(124,[0,3,5]),(962,[0,3,5]),(484,[0,3,5]),(252,[0,3,5]),(970,[0,3,5]),(1012,[5])],[],false,8,[(9,[(0,9),(1,9),(2,9),(6,5),(7,5)]),(11,[(1,9),(2,9),(3,9)])]⟩,n_,⟨[(2,[0,1])],[],false,0,[]⟩]
def aF2:List FT:=[⟨[(2,[0]),(26,[0]),(14288,[0,3,4,5,6]),(57160,[0,3,4,5,6]),(1788,[0,3,4]),(1829160,[0,3,4,5,6,7,43,44,45]),(14312,[3,4,68,69,70]),(29266584,[0,3,4,5,6,7,43,44,45]),(114323,[0,3,4,5,6,7]),(229016,[3,4,68,69,70]),(234132684,[0,3,4,5,6]),(7316647,[0,3,4,5,6,7,43,44,45]),(916070,[3,4,11,68,69,70]),(916071,[3,4,11,68,69,70])],[],false,1475739569877229243016,[]⟩,⟨[(2,[0])],[],false,0,[]⟩,⟨[(2,[0,1,2,3]),(14,[0,1,2,3,9]),(1960,[0,3,9,12,13]),(982,[3,9,13,35]),(1962,[3,9]),(7864,[3,9]),(7866,[3,9])],[],false,34359738880,[]⟩,⟨[(2,[0,1]),(26,[0,3])],[],false,0,[(3,[(0,10)])]⟩,⟨[(2,[0,1])],[],false,0,[]⟩,⟨[(2,[0,1]),(60,[0,1,5]),(976,[0,1,5,6]),(3912,[0,1,5,6]),(62,[0,5]),(31308,[0,1,5,6,7]),(979,[0,1,5,6])],[],false,128,[]⟩,⟨[(2,[0,1])],[],false,0,[]⟩,⟨[(2,[0,1]),(28,[0,1]),(30,[0,1])],[],false,0,[]⟩,⟨[(2,[0])],[],false,0,[]⟩,⟨[(2,[0])],[],false,0,[]⟩,⟨[(2,[0,1,19]),(214,[2,5,19]),(1724,[2,5,19]),(863,[2,5,14,19]),(3451,[2,5]),(6908,[2,5,14]),(3455,[2,5,14,19]),(27638,[2,5,14]),(13822,[2,5]),(55279,[2,5]),(55294,[2,5]),(221182,[2,5]),(1769464,[2])],[],false,36,[]⟩,⟨[(2,[0,1,2]),(214,[2,3,7]),(862,[2,3,7]),(3454,[2,3,7]),(13822,[2,3,7]),(55294,[2,3,7]),(221182,[2,3,7]),(1769468,[2,3,7]),(884735,[2,3,7,72]),(3538939,[2,3,7]),(3538942,[2,3,7]),(14155774,[2,3,7])],[],false,136,[]⟩,⟨[(2,[0,1,2,30]),(54,[0,2,6,30]),(444,[0,2,6,30]),(223,[0,2,6,23,30]),(891,[0,2,6]),(1788,[0,2,6,23]),(895,[0,2,6,23,30]),(7158,[0,2,6,23]),(3582,[0,2,6]),(14319,[0,2,6]),(14334,[0,2,6]),(57342,[0,2,6])],[],false,64,[]⟩,⟨[(2,[0])],[],false,0,[]⟩,n_,⟨[(2,[0,1]),(250,[0,1,5,6,7]),(504,[5,6,7]),(2020,[5,6,7]),(2022,[5,6,7]),(8092,[5,6,7]),(8094,[5,6,7])],[],false,128,[]⟩]
def aEk:List FT:=[⟨[(2,[0,1,2]),(24,[0,1,2,9,10]),(408,[0,1,2,9,10]),(103,[0,1,2,9,10]),(1638,[0,1,2,4,9,10])],[],false,1024,[]⟩,⟨[(2,[0,1,2]),(48,[0,1,2,6]),(200,[0,1,2,6]),(3216,[0,1,2,6,7]),(6436,[0,1,2,6,7]),(51,[0,1,2,6])],[],false,0,[(6,[(2,17),(3,17),(4,17)])]⟩,⟨[(2,[0,1,2]),(976,[0,6,7,8,9]),(1956,[0,6,7,8,9]),(62,[0,6,7,8]),(1008,[0,6,7,10]),(4040,[0,6,7,10])],[],false,0,[(10,[(2,19),(3,19),(4,19),(5,19)])]⟩,⟨[(2,[0,1,2]),(28,[0,1,6]),(1904,[0,1,6,7,8,9]),(7624,[0,1,6,7,8,9]),(61002,[0,1,6,7,8,9,10]),(15251,[0,1,6,7,8,9,10])],[],false,128,[(10,[(2,19),(3,19),(4,19),(5,19)])]⟩,⟨[(2,[0,1,2]),(4072,[0,8,9,10,11,12]),(510,[9,11]),(16292,[0,9,10,11,12]),(2037,[0,9,10,11,12]),(8182,[11,49])],[],false,562949953421824,[]⟩,⟨[(2,[0,1,2]),(112,[0,6,7]),(228,[0,6,7])],[],false,0,[(3,[(2,15),(3,15)])]⟩,⟨[(2,[0,1,2]),(464,[0,1,2,7,8]),(29824,[0,1,2,7,8]),(29826,[0,1,2,7,8]),(7460,[0,1,2,7,8]),(14924,[0,1,2,7,8]),(14926,[0,1,2,7,8]),(238836,[0,1,2,7,8]),(59710,[0,1,2,7,8]),(3821392,[0,1,2,7,8,9]),(238844,[0,1,2,7,8]),(467,[0,1,2,7,8]),(30571152,[0,1,2,7,8,9]),(3821520,[0,1,2,7,8,10]),(15285577,[0,1,2,7,8,9]),(30572176,[0,1,2,7,8,10]),(15286089,[0,1,2,7,8,10])],[],false,0,[(11,[(2,17),(3,17),(4,17)]),(17,[(2,17),(3,17),(4,17)]),(23,[(2,17),(3,17),(4,17)])]⟩,⟨[(2,[0,1])],[],false,0,[]⟩,⟨[(2,[0,1,2,3]),(7680,[0,1,9,10]),(7682,[0,1,9,10]),(15392,[0,1,9,10]),(15394,[0,1,9,10]),(3852,[0,1,9,10]),(3854,[0,1,9,10])],[],false,0,[(1,[(2,15),(3,15)]),(8,[(2,15),(3,15)])]⟩,⟨[(2,[0,1,2,3]),(480,[0,1,10,11]),(482,[0,1,10,11]),(992,[0,1,10,11]),(994,[0,1,10,11]),(252,[0,1,10,11]),(1012,[0,1,11]),(254,[0,1,10,11]),(523776,[0,1,10,11]),(523778,[0,1,10,11]),(1047584,[0,1,10,11]),(1047586,[0,1,10,11]),(261900,[0,1,10,11]),(4094,[0,1,11]),(261902,[0,1,10,11])],[],false,0,[(1,[(2,15),(3,15)]),(8,[(2,15),(3,15)]),(10,[(2,15),(3,15)]),(18,[(2,15),(3,15)]),(21,[(2,15),(3,15)])]⟩,n_,⟨[(2,[0])],[],false,0,[]⟩,⟨[(2,[0])],[],false,2101256,[]⟩,n_,n_,⟨[(2,[0,1]),(104,[0,1,7,8]),(1688,[0,1,7,8]),(423,[0,1,7,8])],[],false,256,[]⟩]
def aEs:List FT:=[⟨[(2,[0,1])],[],false,0,[]⟩,⟨[(2,[0,1]),(52,[0,3]),(54,[0,3]),(7144,[4,5,7,29,30,31]),(114328,[4,5,7,29,30,31]),(914636,[4,8]),(28583,[4,5,7,29,30,31])],[],false,2684355080,[]⟩,⟨[(2,[0])],[],false,0,[]⟩,⟨[(2,[0])],[],false,0,[]⟩,⟨[(2,[0,1]),(60,[0,7,8])],[],false,0,[]⟩,⟨[(2,[0,1]),(60,[4,6,7]),(62,[4,6,7])],[],false,16,[]⟩,⟨[(2,[0])],[],false,0,[]⟩,⟨[(2,[0])],[],false,0,[]⟩,⟨[(2,[0,1,2]),(30,[0,1,2])],[],false,0,[]⟩,⟨[(2,[0])],[],false,0,[]⟩,⟨[(2,[0,1]),(14,[0,3]),(246,[0,3,6,7]),(124,[0,3,6]),(126,[0,3])],[],false,200,[(4,[(9,13)])]⟩,⟨[(2,[0,1]),(14,[0])],[],false,0,[]⟩,⟨[(2,[0,1]),(14,[0])],[],false,0,[]⟩,⟨[(2,[0,1]),(14,[0,3]),(2024,[0,3,6,7,9]),(254,[0,3,6,7,9]),(1013,[0,3,6,7,9]),(1022,[0,3,6,7,9,10,11,12]),(8186,[0,3,6,7,9,10,12]),(4094,[0,3,6,7,9,10]),(65522,[0,6,7]),(131046,[0,3,6,7,10]),(262094,[0,3,6]),(262095,[0,3,6,7])],[],false,200,[(4,[(9,13)])]⟩,⟨[(1,[0,1])],[],false,0,[]⟩,⟨[(2,[0,1])],[],false,0,[]⟩]
def aDx:List FT:=[⟨[(2,[0,1,2]),(30,[0,1,2])],[],false,0,[]⟩,⟨[(2,[0,1]),(24,[0,8,9]),(408,[0,8,9]),(103,[0,8,9])],[],false,512,[]⟩,⟨[(2,[0,1]),(30,[4,6,7])],[],false,1048592,[]⟩,⟨[(2,[0,1,2,3]),(48,[0,2,3,8]),(396,[0,2,3,8,9]),(794,[0,2,3,8,9]),(796,[0,2,3,8,9]),(798,[0,2,3,8,9])],[],false,0,[(6,[(4,23),(5,23),(6,23),(7,23)])]⟩,⟨[(2,[0,1,2])],[],false,0,[]⟩,⟨[(2,[0,1,2,3,4])],[],false,0,[]⟩,n_,⟨[(2,[0,1])],[],false,0,[]⟩,⟨[(2,[0,1]),(14,[0,1]),(122,[0])],[],false,0,[]⟩,⟨[(2,[0,1,2,3]),(52,[1,2,3])],[],false,524288,[]⟩,⟨[(2,[0])],[],false,0,[]⟩,n_,n_,n_,n_,n_]
def aEi:List FT:=[n_,n_,n_,n_,n_,n_,n_,n_,n_,n_,n_,n_,n_,n_,⟨[(2,[0,1,2]),(30,[1,3,8])],[],false,1032,[(7,[(0,13),(1,13)])]⟩,n_]
def TT:FuncId→FT:=aF0 [tb0,tb1,tb2,tb3,tb4,tb5,tb6,tb7,tb8,tb9,aEu,aE5,aEd,aEc,aF3,aE3,aF2,aEk,aEs,aDx,aEi]
abbrev Dd (f:FuncId) (i:Nat) (ds:List Nat) (Q:Value→AH→Prop) (vs:List Value) (h:AH):Prop:=Go.Ab.D Pr K TT f i ds Q vs h
theorem cW {f:FuncId} {args:List Value} {Q:Value→AH→Prop} {h:AH} (hw:wC Pr K TT f args Q h):Cl Pr K f args h Q:=Go.Ab.cW hw
theorem rW {f:FuncId} {num m l d:Nat} {lv:List Nat} {vs args:List Value} {e:Nat→Value} {st:LoopState} {pd:Option Code} {Q:Value→AH→Prop} {h:AH} (hg:h.get l=some (lp Pr f (nB num) m e d st pd)) (he:List.map e lv=vs)
  (hw:wR0 Pr K TT f num m lv vs l args Q h):wX Pr K (.func (.yield l) #[] #[]) args h Q:=Go.Ab.rW hg he hw
end Go.Proofs.YtajjljbmfdboaaaGreatDoor
end
section
namespace Go.Hm
open Go Go.Ab
structure bQ where
 aF:Int
 bP:Int
 bH:Int
 ways:Int
 depth:Int
 entries:Int
 aJ:Int
 deriving DecidableEq
def bQ.list (C:bQ):List Int:=[C.aF,C.bP,C.bH,C.ways,C.depth,C.entries,C.aJ]
def bQ.enc (C:bQ):List Value:=[I C.aF,I C.bP,I C.bH,I C.ways,I C.depth,I C.entries,I C.aJ]
def aAz:List Int:=[4,16,8,4,16,8,4]
def fB:List Value:=[I 4,I 16,I 8,I 4,I 16,I 8,I 4]
def bQ.gq (C:bQ):Nat→Nat→Int
 |0,_=>0
 |f+1,i=>if C.list.getD i 0<1∨aAz.getD i 0<C.list.getD i 0 then 10 else C.gq f (i+1)
def bQ.Ok (C:bQ):Prop:=(1≤C.aF∧C.aF≤4)∧(1≤C.bP∧C.bP≤16)∧(1≤C.bH∧C.bH≤8)∧(1≤C.ways∧C.ways≤4)∧(1≤C.depth∧C.depth≤16)∧(1≤C.entries∧C.entries≤8)∧(1≤C.aJ∧C.aJ≤4)
instance (C:bQ):Decidable C.Ok:=by unfold bQ.Ok;infer_instance
theorem bQ.aC3 (C:bQ):C.gq 7 0=if C.Ok then 0 else 10:=by
 simp only[bQ.gq,bQ.list,aAz,List.getD_cons_zero,List.getD_cons_succ]
 by_cases h:C.Ok
 ·rw[if_pos h]
  unfold bQ.Ok at h
  repeat rw[if_neg (by omega)]
 ·rw[if_neg h]
  unfold bQ.Ok at h
  repeat' split
  all_goals first|rfl|(exfalso;omega)
def bQ.lines (C:bQ):Nat:=(C.bP*2).toNat
theorem bQ.fJ {C:bQ} (h:C.Ok):(C.lines:Int)=C.bP*2∧2≤C.lines∧C.lines≤32:=by
 unfold bQ.Ok at h;unfold bQ.lines;omega
end Go.Hm
end
section
open Go Go.Ab
attribute [local irreducible] aZ Br oM rI sQ Bi lE tH kU Qb gI lF pD pW oR kH zH tJ W2 Ut Qa Nn T3 P6 Km Lx T2 jR mX rV iO copyV iB vL Va Uo Fm kB Lu Sv Vn nF rH wK zB Cl wX T1 rM qX jI gS cI cA
section
namespace Go.Proofs.YtajjljbmfdboaaaGreatDoor
open Go Go.Ab Go.Hm
set_option maxRecDepth 100000
variable {G:Bg} {h:AH} {L L':List HP}
theorem Wo {C:bQ} {p:Nat} {Q:Value→AH→Prop} (hs:Hs G h (aE p 0 C.enc::L)):∀(f i:Nat),i+f=7→Q (I (C.gq f i)) h→Dd 89 1 [] Q [(pt p 0 0),(I 0),(.agg ⟨fB⟩),(I i)] h:=by
 intro f
 induction f with
 |zero=>
  intro i hi hq
  exact bW (aU (aI (by omega) hq))
 |succ f ih=>
  intro i hi hq
  have h7:i<7:=by omega
  refine bW (aU (bM (by omega) (bW ?_)))
  have hc:C.enc[0+i*1]?=some (I (C.list.getD i 0)):=by
   have:i=0∨i=1∨i=2∨i=3∨i=4∨i=5∨i=6:=by omega
   rcases this with rfl|rfl|rfl|rfl|rfl|rfl|rfl<;>rfl
  have hl:fB[i]?=some (I (aAz.getD i 0)):=by
   have:i=0∨i=1∨i=2∨i=3∨i=4∨i=5∨i=6:=by omega
   rcases this with rfl|rfl|rfl|rfl|rfl|rfl|rfl<;>rfl
  rw[bQ.gq] at hq
  refine Yc h7 hl (dF h7 (aC hs hc (aU (aS (fun h1=>?_) (fun h1=>dF h7 (aC hs hc (kG (aS (fun h2=>bW ?_) (fun h2=>bW (bI (by omega) (ih (i+1) (by omega) ?_)))))))))))
  ·rw[if_pos (.inl h1)] at hq;exact hq
  ·rw[if_pos (.inr h2)] at hq;exact hq
  ·rw[if_neg (by omega)] at hq;exact hq
theorem lC {C:bQ} {Q:Value→AH→Prop} (hl:Ob G 0 fB) (hs:Hs G h L) (hk:∀h',Hs G h' L→Q (I (if C.Ok then 0 else 10)) h'):Cl Pr K 89 [.agg ⟨C.enc⟩] h Q:=by
 refine cW ?_
 refine dJ hs ?_
 intro p h hs
 iterate 7 refine aA (aC hs rfl ?_)
 refine aK (c:=C.enc) rfl (bK hs ?_)
 intro p h hs
 refine bA hs rfl rfl rfl rfl ?_
 intro h hs
 refine aB3 hs hl rfl ?_
 refine Wo (C:=C) hs 7 0 rfl ?_
 show Q _ _
 rw[bQ.aC3]
 exact hk _ hs.tail.tail
theorem oX {C:bQ} (hC:C.Ok) {Q:Value→AH→Prop} (hl:Ob G 0 fB) (hs:Hs G h L) (hk:∀h',Hs G h' L→Q (I C.lines) h'):Cl Pr K 63 [.agg ⟨C.enc⟩] h Q:=by
 refine cW ?_
 refine dJ hs ?_
 intro p h hs
 refine aN hs (by decide) (l:=C.enc) rfl rfl (lC hl hs fun h hs=>?_)
 rw[if_pos hC]
 have hb:=bQ.fJ hC
 refine aX (aI (by omega) ?_)
 refine aA (aC hs rfl (Ay (by unfold bQ.Ok at hC;omega) ?_))
 show Q _ _
 rw[show C.bP*2=(C.lines:Int) from hb.1.symm]
 exact hk _ hs.tail
theorem Zj {C:bQ} (hC:C.Ok) {l:Int} {Q:Value→AH→Prop} (hl:Ob G 0 fB) (hs:Hs G h L) (hk:∀h',Hs G h' L→Q (if 0≤l∧l<C.lines then .tuple ⟨[I (l % C.aJ),I 0]⟩ else .tuple ⟨[I 0,I 10]⟩) h'):Cl Pr K 238 [.agg ⟨C.enc⟩,I l] h Q:=by
 refine cW ?_
 refine dJ hs ?_
 intro p h hs
 refine aU (aS (fun h1=>?_) (fun h1=>?_))
 ·have:=hk _ hs.tail
  rw[if_neg (by omega)] at this;exact this
 ·refine aN hs (by decide) (l:=C.enc) rfl rfl (oX hC hl hs fun h hs=>?_)
  refine dM (aS (fun h2=>?_) (fun h2=>?_))
  ·have:=hk _ hs.tail
   rw[if_neg (by omega)] at this;exact this
  ·have:=hk _ hs.tail
   rw[if_pos (by omega)] at this
   refine aA (aC hs rfl (Ra (by omega) (by unfold bQ.Ok at hC;omega) ?_))
   exact this
end Go.Proofs.YtajjljbmfdboaaaGreatDoor
end
end
section
namespace Go.Hm
open Go Go.Ab
abbrev Ln:=Int×Int
def J9 (l:Ln):List Value:=[I l.1,I l.2]
def gH (n B i:Nat):Nat:=(n+B - 1 - i)/B
theorem Y9 {B i:Nat} (hi:i<B):gH 0 B i=0:=Nat.div_eq_of_lt (by omega)
theorem Ms {n B i:Nat} (hi:i<B):gH (n+1) B i=if i=n % B then gH n B i+1 else gH n B i:=by
 have hd:=Nat.div_add_mod n B
 have hm:=Nat.mod_lt n (show 0<B by omega)
 unfold gH
 generalize n/B=q at hd
 generalize n % B=r at hd hm ⊢
 subst hd
 split
 ·rename_i h;subst h
  rw[show B*q+i+1+B - 1 - i=B*q+B by omega,show B*q+i+B - 1 - i=B*q+(B - 1) by omega]
  rw[Nat.mul_add_div (by omega),Nat.mul_add_div (by omega),Nat.div_self (by omega),Nat.div_eq_of_lt (show B - 1<B by omega)]
 ·rename_i h
  rcases Nat.lt_or_ge i r with h1|h1
  ·rw[show B*q+r+1+B - 1 - i=B*q+(B+(r - i)) by omega,show B*q+r+B - 1 - i=B*q+(B+(r - i - 1)) by omega]
   rw[Nat.mul_add_div (by omega),Nat.mul_add_div (by omega),Nat.add_div_left _ (by omega),Nat.add_div_left _ (by omega),Nat.div_eq_of_lt (show r - i<B by omega),Nat.div_eq_of_lt (show r - i - 1<B by omega)]
  ·rw[show B*q+r+1+B - 1 - i=B*q+(B+r - i) by omega,show B*q+r+B - 1 - i=B*q+(B+r - i - 1) by omega]
   rw[Nat.mul_add_div (by omega),Nat.mul_add_div (by omega),Nat.div_eq_of_lt (show B+r - i<B by omega),Nat.div_eq_of_lt (show B+r - i - 1<B by omega)]
theorem F3 {n B l:Nat} (hB:0<B) (hl:l<n):l/B<gH n B (l % B):=by
 unfold gH
 have hd:=Nat.div_add_mod l B
 have hm:=Nat.mod_lt l hB
 rw[Nat.lt_div_iff_mul_lt hB]
 rw[Nat.mul_comm]
 generalize B*(l/B)=q at hd ⊢
 omega
theorem Nk {B l k i:Nat} (hi:i<B):k*B+i=l↔k=l/B∧i=l % B:=by
 constructor
 ·intro h;subst h
  rw[Nat.mul_comm,Nat.mul_add_div (by omega),Nat.mul_add_mod,Nat.div_eq_of_lt hi,Nat.mod_eq_of_lt hi];simp
 ·rintro ⟨rfl,rfl⟩
  have:=Nat.div_add_mod l B
  rw[Nat.mul_comm];exact this
theorem bQ.bk {C:bQ} (h:C.Ok):(C.aJ.toNat:Int)=C.aJ∧0<C.aJ.toNat∧C.aJ.toNat≤4:=by unfold bQ.Ok at h;omega
def Ka (B i:Nat) (mem:Nat→Ln):Nat→List Value:=fun k=>J9 (mem (k*B+i))
theorem M8 {B i:Nat} {mem:Nat→Ln} (k:Nat):(Ka B i mem k).length=2:=rfl
theorem tO {α:Type} {f:Nat→α} {i:Nat}:bT f i (f i)=f:=by
 funext j;unfold bT;split
 ·rename_i h;rw[h]
 ·rfl
theorem jd {B l:Nat} {mem:Nat→Ln} (hB:0<B):Ka B (l % B) mem (l/B)=J9 (mem l):=by
 unfold Ka;rw[(Nk (Nat.mod_lt l hB)).2 ⟨rfl,rfl⟩]
theorem Pj {B l:Nat} {mem:Nat→Ln} {v:Ln} (hB:0<B):bT (Ka B (l % B) mem) (l/B) (J9 v)=Ka B (l % B) (bT mem l v):=by
 funext k
 unfold Ka bT
 have:=(Nk (l:=l) (k:=k) (Nat.mod_lt l hB))
 by_cases h:k=l/B
 ·rw[if_pos h,if_pos (this.2 ⟨h,rfl⟩)]
 ·rw[if_neg h,if_neg (fun e=>h (this.1 e).1)]
theorem pg {B l i:Nat} {mem:Nat→Ln} {v:Ln} (hi:i<B) (h:i≠l % B):Ka B i (bT mem l v)=Ka B i mem:=by
 funext k
 unfold Ka bT
 rw[if_neg (fun e=>h ((Nk hi).1 e).2)]
theorem Yb {n B i:Nat} (hB:0<B):gH n B i≤n:=by
 unfold gH
 refine Nat.le_of_lt_succ (Nat.div_lt_of_lt_mul ?_)
 rw[Nat.mul_succ]
 have:n≤B*n:=Nat.le_mul_of_pos_left _ hB
 omega
def mY:Nat→Ln:=fun _=>(0,0)
end Go.Hm
end
section
open Go Go.Ab
attribute [local irreducible] aZ Br oM rI sQ Bi lE tH kU Qb gI lF pD pW oR kH zH tJ W2 Ut Qa Nn T3 P6 Km Lx T2 jR mX rV iO copyV iB vL Va Uo Fm kB Lu Sv Vn nF rH wK zB Cl wX T1 rM qX jI gS cI cA
section
namespace Go.Proofs.YtajjljbmfdboaaaGreatDoor
open Go Go.Ab Go.Hm
set_option maxRecDepth 100000
variable {G:Bg} {h:AH} {L L':List HP}
structure BkA where
 r:Int
 w:Int
 a:Option Addr
 cap:Nat
def fE (n B b o i:Nat) (mem:Nat→Ln):HP:=sS fun x:BkA=>
 sp [aE b o [I x.r,I x.w,.slice x.a (gH n B i) x.cap],dB 2 155 x.a x.cap (gH n B i,(List.range (gH n B i)).flatMap (Ka B i mem))]
theorem yH {n B b o i:Nat} {mem:Nat→Ln} (hs:Hs G h (fE n B b o i mem::L)):∃r w a cap,Hs G h (aE b o [I r,I w,.slice a (gH n B i) cap]::dB 2 155 a cap (gH n B i,(List.range (gH n B i)).flatMap (Ka B i mem))::L):=by
 obtain⟨⟨r,w,a,cap⟩,hs⟩:=hs.Be
 exact⟨r,w,a,cap,hs.unpack⟩
theorem nU {n B b o i:Nat} {mem:Nat→Ln} {r w:Int} {a:Option Addr} {cap:Nat} (hs:Hs G h (aE b o [I r,I w,.slice a (gH n B i) cap]::dB 2 155 a cap (gH n B i,(List.range (gH n B i)).flatMap (Ka B i mem))::L)):Hs G h (fE n B b o i mem::L):=
 Hs.wM (A:=fun x:BkA=>sp [aE b o [I x.r,I x.w,.slice x.a (gH n B i) x.cap],dB 2 155 x.a x.cap (gH n B i,(List.range (gH n B i)).flatMap (Ka B i mem))]) ⟨r,w,a,cap⟩ (Hs.pack (A:=[_,_]) hs)
structure MmA where
 b:Nat
 o:Nat
 cap:Nat
def eV (G:Bg) (n mb:Nat) (C:bQ) (mem:Nat→Ln):HP:=sS fun x:MmA=>
 sp [aE mb 0 (C.enc++[.slice (some ⟨x.b,x.o,none⟩) C.aJ.toNat x.cap]),hole G 3 297 (some ⟨x.b,x.o,none⟩) x.cap C.aJ.toNat x.b x.o,dC C.aJ.toNat fun i=>fE n C.aJ.toNat x.b (x.o+i*3) i mem]
theorem tW {n mb:Nat} {C:bQ} {mem:Nat→Ln} (hs:Hs G h (eV G n mb C mem::L)):∃b o cap,Hs G h (aE mb 0 (C.enc++[.slice (some ⟨b,o,none⟩) C.aJ.toNat cap])::hole G 3 297 (some ⟨b,o,none⟩) cap C.aJ.toNat b o::dC C.aJ.toNat (fun i=>fE n C.aJ.toNat b (o+i*3) i mem)::L):=by
 obtain⟨⟨b,o,cap⟩,hs⟩:=hs.Be
 exact⟨b,o,cap,hs.unpack⟩
theorem qE {n mb:Nat} {C:bQ} {mem:Nat→Ln} {b o cap:Nat} (hs:Hs G h (aE mb 0 (C.enc++[.slice (some ⟨b,o,none⟩) C.aJ.toNat cap])::hole G 3 297 (some ⟨b,o,none⟩) cap C.aJ.toNat b o::dC C.aJ.toNat (fun i=>fE n C.aJ.toNat b (o+i*3) i mem)::L)):Hs G h (eV G n mb C mem::L):=
 Hs.wM (A:=fun x:MmA=>sp [aE mb 0 (C.enc++[.slice (some ⟨x.b,x.o,none⟩) C.aJ.toNat x.cap]),hole G 3 297 (some ⟨x.b,x.o,none⟩) x.cap C.aJ.toNat x.b x.o,dC C.aJ.toNat fun i=>fE n C.aJ.toNat x.b (x.o+i*3) i mem]) ⟨b,o,cap⟩ (Hs.pack (A:=[_,_,_]) hs)
theorem Jq {L1 L2 L3:List HP} (n mb:Nat) (C:bQ) (mem:Nat→Ln) (b o cap:Nat) (hs:Hs G h L) [k:dX (aE mb 0 (C.enc++[.slice (some ⟨b,o,none⟩) C.aJ.toNat cap])) L L1] [k2:dX (hole G 3 297 (some ⟨b,o,none⟩) cap C.aJ.toNat b o) L1 L2] [k3:dX (dC C.aJ.toNat (fun i=>fE n C.aJ.toNat b (o+i*3) i mem)) L2 L3]:Hs G h (eV G n mb C mem::L3):=
 qE (b:=b) (o:=o) (cap:=cap) (hs.perm (k.perm.trans ((k2.perm.trans (k3.perm.cons _)).cons _)))
theorem rZ {C:bQ} (hC:C.Ok) {mb b o cap l:Nat} {Q:Value→AH→Prop} (hl:Ob G 0 fB) (hs:Hs G h L) [m:Has (aE mb 0) L (C.enc++[.slice (some ⟨b,o,none⟩) C.aJ.toNat cap]) L'] (h0:l<C.lines)
  (hk:∀h',Hs G h' L→Q (.tuple ⟨[pt b (o+(l % C.aJ.toNat)*3) 0,I (l/C.aJ.toNat:Nat),I 0]⟩) h'):Cl Pr K 177 [pt mb 0 0,I l] h Q:=by
 have hb:=bQ.bk hC
 refine cW (cS (bS (bW ?_)))
 refine aB (aA (aN hs (by decide) (l:=C.enc) rfl rfl (Zj hC hl hs fun h hs=>?_)))
 rw[if_pos (by omega)]
 refine aG rfl (aG rfl (aX (aI (by omega) ?_)))
 refine aR hs ?_
 intro r h hs
 refine aB (aA (aC hs rfl ?_))
 have e1:(l:Int) % C.aJ=((l % C.aJ.toNat:Nat):Int):=by rw[←hb.1];simp
 have e2:(l:Int)/C.aJ=((l/C.aJ.toNat:Nat):Int):=by rw[←hb.1];simp
 rw[e1]
 refine dU (Nat.mod_lt _ hb.2.1) (aB (aA (aA (aC hs rfl (By (by omega) (by omega) (by have:=(bQ.fJ hC).2;omega) ?_)))))
 show Q _ _
 rw[e2]
 exact hk _ hs.tail
theorem Yw {C:bQ} (hC:C.Ok) {mb l:Nat} {mem:Nat→Ln} {Q:Value→AH→Prop} (hl:Ob G 0 fB) (hs:Hs G h L) [m:Has (eV G C.lines mb C) L mem L'] (h0:l<C.lines)
  (hk:∀h',Hs G h' (eV G C.lines mb C mem::L')→Q (.tuple ⟨[.agg ⟨J9 (mem l)⟩,I 0]⟩) h'):Cl Pr K 306 [pt mb 0 0,I l] h Q:=by
 have hb:=bQ.bk hC
 have hs:=m.of hs
 obtain⟨b,o,cap,hs⟩:=tW hs
 refine cW (bK hs ?_)
 intro p h hs
 refine rZ hC hl hs h0 fun h hs=>?_
 refine aG rfl (aG rfl (aG rfl (aX (aI (by omega) (bW ?_)))))
 have hs:=(hs.front (dC C.aJ.toNat fun i=>fE C.lines C.aJ.toNat b (o+i*3) i mem)).kR (l % C.aJ.toNat) (Nat.mod_lt _ hb.2.1)
 obtain⟨r,w,a,cp,hs⟩:=yH hs
 refine aB (aA (aA (aC hs rfl (Vd (aB (aA (aA (bE hs rfl rfl rfl rfl ?_))))))))
 intro h hs
 refine aB (aA (aC hs rfl ?_))
 have hat:=F3 hb.2.1 h0
 obtain⟨b2,o2,rfl,H,hs,hback⟩:=Hs.j2 (M8 (B:=C.aJ.toNat) (i:=l % C.aJ.toNat) (mem:=mem)) hat (hs.front (dB 2 155 a cp (gH C.lines C.aJ.toNat (l % C.aJ.toNat),(List.range (gH C.lines C.aJ.toNat (l % C.aJ.toNat))).flatMap (Ka C.aJ.toNat (l % C.aJ.toNat) mem))))
 rw[jd hb.2.1] at hs
 refine dU hat (aN hs (by decide) (l:=J9 (mem l)) rfl rfl ?_)
 refine bA hs rfl rfl rfl rfl ?_
 intro h hs
 refine aN hs (by decide) rfl rfl ?_
 refine hk _ ?_
 have hs:=hback _ _ _ rfl rfl (hs.cN (aE b2 (o2+l/C.aJ.toNat*2) (J9 (mem l))) H)
 rw[Pj hb.2.1,tO] at hs
 have hs:=nU (hs.sg (b:=b) (o:=o+l % C.aJ.toNat*3) (c:=[I (wr (r+1)),I w,.slice (some ⟨b2,o2,none⟩) (gH C.lines C.aJ.toNat (l % C.aJ.toNat)) cp]) rfl)
 exact qE (b:=b) (o:=o) (cap:=cap) ((hs.nG (n:=C.aJ.toNat) (i:=l % C.aJ.toNat) (fun i=>fE C.lines C.aJ.toNat b (o+i*3) i mem) (fun i=>fE C.lines C.aJ.toNat b (o+i*3) i mem) (Nat.mod_lt _ hb.2.1) (fun _ _ _=>rfl)).to)
theorem Ci {C:bQ} (hC:C.Ok) {mb l:Nat} {mem:Nat→Ln} {v:Ln} {Q:Value→AH→Prop} (hl:Ob G 0 fB) (hs:Hs G h L) [m:Has (eV G C.lines mb C) L mem L'] (h0:l<C.lines)
  (hk:∀h',Hs G h' (eV G C.lines mb C (bT mem l v)::L')→Q (I 0) h'):Cl Pr K 217 [pt mb 0 0,I l,.agg ⟨J9 v⟩] h Q:=by
 have hb:=bQ.bk hC
 have hs:=m.of hs
 obtain⟨b,o,cap,hs⟩:=tW hs
 refine cW (dJ hs ?_)
 intro p h hs
 refine rZ hC hl hs h0 fun h hs=>?_
 refine aG rfl (aG rfl (aG rfl (aX (aI (by omega) (bW ?_)))))
 have hs:=(hs.front (dC C.aJ.toNat fun i=>fE C.lines C.aJ.toNat b (o+i*3) i mem)).kR (l % C.aJ.toNat) (Nat.mod_lt _ hb.2.1)
 obtain⟨r,w,a,cp,hs⟩:=yH hs
 refine aB (aA (aA (aC hs rfl (Vd (aB (aA (aA (bE hs rfl rfl rfl rfl ?_))))))))
 intro h hs
 refine aR hs ?_
 intro rv h hs
 refine aB (aA (aC hs rfl (aN hs (by decide) rfl rfl ?_)))
 have hat:=F3 hb.2.1 h0
 obtain⟨b2,o2,rfl,H,hs,hback⟩:=Hs.j2 (M8 (B:=C.aJ.toNat) (i:=l % C.aJ.toNat) (mem:=mem)) hat (hs.front (dB 2 155 a cp (gH C.lines C.aJ.toNat (l % C.aJ.toNat),(List.range (gH C.lines C.aJ.toNat (l % C.aJ.toNat))).flatMap (Ka C.aJ.toNat (l % C.aJ.toNat) mem))))
 refine dU hat (bA hs rfl rfl rfl rfl ?_)
 intro h hs
 refine hk _ ?_
 have hs:=hback _ _ _ rfl rfl ((hs.sg (b:=b2) (o:=o2+l/C.aJ.toNat*2) (c:=J9 v) rfl).cN (aE b2 (o2+l/C.aJ.toNat*2) (J9 v)) H)
 rw[Pj hb.2.1] at hs
 have hs:=nU (hs.sg (b:=b) (o:=o+l % C.aJ.toNat*3) (c:=[I r,I (wr (w+1)),.slice (some ⟨b2,o2,none⟩) (gH C.lines C.aJ.toNat (l % C.aJ.toNat)) cp]) rfl)
 exact qE (b:=b) (o:=o) (cap:=cap) ((hs.nG (n:=C.aJ.toNat) (i:=l % C.aJ.toNat) (fun i=>fE C.lines C.aJ.toNat b (o+i*3) i mem) (fun i=>fE C.lines C.aJ.toNat b (o+i*3) i (bT mem l v)) (Nat.mod_lt _ hb.2.1) (fun i hi hne=>by simp only[fE,pg hi hne])).to)
theorem Sp {C:bQ} (hC:C.Ok) {p mb:Nat} {Q:Value→AH→Prop} (hk:∀h',Hs G h' (eV G C.lines mb C mY::L)→Q (.tuple ⟨[pt mb 0 0,I 0]⟩) h'):∀(f n:Nat) (h:AH) (g:HP),n+f=C.lines→Hs G h (eV G n mb C mY::aE p 0 C.enc::g::L)→
  Dd 93 2 [] Q [(pt p 0 0),(pt mb 0 0),(I C.lines),(I n)] h:=by
 have hb:=bQ.bk hC
 have hln:=bQ.fJ hC
 intro f
 induction f with
 |zero=>
  intro n h g hn hs
  have:n=C.lines:=by omega
  subst this
  exact bW (aU (aI (by omega) (hk _ hs.to)))
 |succ f ih=>
  intro n h g hn hs
  refine bW (aU (bM (by omega) (bW ?_)))
  refine aR hs ?_
  intro rv h hs
  obtain⟨b,o,cap,hs⟩:=tW (hs.front (eV G n mb C mY))
  refine aB (aA (aC hs rfl (aA (aC hs rfl ?_))))
  have e1:(n:Int) % C.aJ=((n % C.aJ.toNat:Nat):Int):=by rw[←hb.1];simp
  refine Ra (by omega) (by omega) ?_
  rw[e1]
  have hi:=Nat.mod_lt n hb.2.1
  refine dU hi ?_
  have hs:=(hs.front (dC C.aJ.toNat fun i=>fE n C.aJ.toNat b (o+i*3) i mY)).kR (n % C.aJ.toNat) hi
  obtain⟨r,w,a,cp,hs⟩:=yH hs
  refine aB (aA (aC hs rfl (aK (c:=J9 (0,0)) rfl (aK (c:=J9 (0,0)) rfl ?_))))
  refine dP hs rfl rfl rfl ?_
  intro a3 h hs
  have hcl:=Yb (n:=n) (B:=C.aJ.toNat) (i:=n % C.aJ.toNat) hb.2.1
  refine pL hs (by omega) ?_
  intro a4 c4 h hs
  dsimp only
  refine aB (aA (bE hs rfl rfl rfl rfl ?_))
  intro h hs
  refine bI (by omega) ?_
  refine ih (n+1) h (sp [dB 2 155 (some a3) 1 (1,J9 (0,0)),W7 rv (10,[]),g]) (by omega) ?_
  have ec:gH (n+1) C.aJ.toNat (n % C.aJ.toNat)=gH n C.aJ.toNat (n % C.aJ.toNat)+1:=by rw[Ms hi,if_pos rfl]
  have ef:(List.range (gH n C.aJ.toNat (n % C.aJ.toNat))).flatMap (Ka C.aJ.toNat (n % C.aJ.toNat) mY)++J9 (0,0)=(List.range (gH (n+1) C.aJ.toNat (n % C.aJ.toNat))).flatMap (Ka C.aJ.toNat (n % C.aJ.toNat) mY):=by
   rw[ec,List.range_succ,List.flatMap_append];rfl
  rw[ef,←ec] at hs
  have hs:=nU (n:=n+1) (r:=r) (w:=w) (a:=a4) (cap:=c4) (b:=b) (o:=o+n % C.aJ.toNat*3) hs
  exact(Jq (n+1) mb C mY b o cap (hs.nG (n:=C.aJ.toNat) (i:=n % C.aJ.toNat) (fun i=>fE n C.aJ.toNat b (o+i*3) i mY) (fun i=>fE (n+1) C.aJ.toNat b (o+i*3) i mY) hi (fun j hj hne=>by simp only[fE,Ms hj,if_neg hne]))).to
theorem M1 {C:bQ} (hC:C.Ok) {Q:Value→AH→Prop} (hl:Ob G 0 fB) (hs:Hs G h L) (hk:∀mb h',Hs G h' (eV G C.lines mb C mY::L)→Q (.tuple ⟨[pt mb 0 0,I 0]⟩) h'):Cl Pr K 93 [.agg ⟨C.enc⟩] h Q:=by
 have hb:=bQ.bk hC
 refine cW (dJ hs ?_)
 intro p h hs
 refine aN hs (by decide) (l:=C.enc) rfl rfl (lC hl hs fun h hs=>?_)
 rw[if_pos hC]
 refine aX (aI (by omega) (bW (aR hs ?_)))
 intro rv h hs
 refine aN hs (by decide) (l:=C.enc) rfl rfl (aA (aC hs rfl (O3 (by omega) (by omega) (by omega) ?_)))
 dsimp only
 refine iJ hs rfl rfl ?_ rfl ?_ ?_
 ·rw[fP,oP (W:=3) (fun _=>rfl)]
 ·rw[fP];exact nZ (fun _=>rfl) _
 intro a h hs
 obtain⟨b,o,ha,hs⟩:=Hs.Im (W:=3) rfl hb.2.1 hs
 cases ha
 refine aK (c:=C.enc++[.slice (some ⟨b,o,none⟩) C.aJ.toNat C.aJ.toNat]) rfl ?_
 refine xP hs rfl rfl ?_
 intro mb h hs
 refine aN hs (by decide) (l:=C.enc) rfl rfl (oX hC hl hs fun h hs=>?_)
 have hs:=(Hs.Hy (g:=fun i=>fE 0 C.aJ.toNat b (o+i*3) i mY) C.aJ.toNat _ (fun i hi h L hs=>?_) (hs.front (dC C.aJ.toNat fun i=>aE b (o+i*3) [I 0,I 0,.slice none 0 0])))
 ·have hs:=Jq 0 mb C mY b o C.aJ.toNat hs
  exact Sp hC (hk mb) C.lines 0 h _ (by omega) (hs.to (M:=[eV G 0 mb C mY,aE p 0 C.enc,sp []]++L))
 ·refine nU (r:=0) (w:=0) (a:=none) (cap:=0) ?_
  rw[Y9 hi]
  exact(fY hs).kI
end Go.Proofs.YtajjljbmfdboaaaGreatDoor
end
end
section
namespace Go.Ab
abbrev tx (l:List UInt8):Value:= .string ⟨l.toArray⟩
variable {G:Bg} {h:AH} {L L':List HP}
end Go.Ab
end
section
namespace Go.Is
open Go Go.Ab
def opsL:List (List UInt8×List Int):=[([],[0,0,0]),([115,101,116],[1,2,0]),([97,100,100],[1,1,1]),([108,111,97,100],[1,1,0]),([115,116,111,114,101],[1,1,0]),([115,119,97,112],[1,1,0]),([102,101,110,99,101],[0,0,0]),
  ([119,111,114,108,100],[3,0,0]),([99,97,108,108],[4,1,1]),([106,117,109,112],[5,0,0]),([122,101,114,111],[1,5,0]),([104,97,108,116],[0,0,0])]
def sF:List Value:=opsL.flatMap fun r=>tx r.1::r.2.map I
structure Ins where
 op:Int
 a:Int
 b:Int
 c:Int
 deriving DecidableEq
def Ins.enc (x:Ins):List Value:=[I x.op,I x.a,I x.b,I x.c]
def Aa (o:Nat):List Int:=(opsL.getD o ([],[])).2
def isO (x:Int):Bool:=decide (1≤x∧x<12)
def wU (kE v many:Int):Bool:=
 if kE=1 then decide (0≤v∧v<4) else if kE=2 then true else if kE=3 then decide (1≤v∧v≤3) else if kE=4 then decide (1≤v∧v≤4) else if kE=5 then decide (0≤v∧v≤many) else decide (v=0)
def Ins.Kg (x:Ins):List Int:=[x.a,x.b,x.c]
def Ins.Df (x:Ins):List (Int×Int):=(Aa x.op.toNat).zip x.Kg
def mO (x:Ins) (many:Int):Int:=if isO x.op then(if(x.Df.all fun p=>wU p.1 p.2 many) then 0 else 10) else 15
def gq (many:Int):List Ins→Nat→Int×Int
 |[],_=>(0,0)
 |x::l,i=>if mO x many≠0 then((i:Int)+1,mO x many) else gq many l (i+1)
def jH (p:List Ins):Int×Int:=if 32<p.length then(0,11) else gq p.length p 0
theorem o12 {k:Nat} (h:k<12):k=0∨k=1∨k=2∨k=3∨k=4∨k=5∨k=6∨k=7∨k=8∨k=9∨k=10∨k=11:=by omega
theorem qs {k i:Nat} (h:k<12) (hi:i<3):sF[k*4+(1+i*1)]?=some (I ((Aa k).getD i 0)):=by
 have h3:i=0∨i=1∨i=2:=by omega
 rcases o12 h with rfl|rfl|rfl|rfl|rfl|rfl|rfl|rfl|rfl|rfl|rfl|rfl<;>rcases h3 with rfl|rfl|rfl<;>rfl
theorem Te {k:Nat} (h:k<12):(Aa k).length=3:=by
 rcases o12 h with rfl|rfl|rfl|rfl|rfl|rfl|rfl|rfl|rfl|rfl|rfl|rfl<;>rfl
theorem Lc {x:Ins} (h:isO x.op=true):x.Df.length=3:=by
 have:=of_decide_eq_true h
 unfold Ins.Df
 rw[List.length_zip,Te (by omega)]
 rfl
theorem C1 {x:Ins} (h:isO x.op=true) {i:Nat} (hi:i<3):x.Df[i]?=some ((Aa x.op.toNat).getD i 0,x.Kg.getD i 0):=by
 have:=of_decide_eq_true h
 have h1:=Te (k:=x.op.toNat) (by omega)
 unfold Ins.Df
 rw[List.getElem?_zip_eq_some]
 refine⟨?_,?_⟩
 ·show(Aa x.op.toNat)[i]?=some ((Aa x.op.toNat).getD i 0)
  rw[List.getD_eq_getElem?_getD,List.getElem?_eq_getElem (by omega)];rfl
 ·show x.Kg[i]?=some (x.Kg.getD i 0)
  rw[List.getD_eq_getElem?_getD,List.getElem?_eq_getElem (by simp[Ins.Kg];omega)];rfl
theorem Wv {many:Int}:∀(l:List Ins) (i:Nat),(gq many l i).2=0→∀x∈l,mO x many=0
 |[],_,_,x,hx=>by simp at hx
 |y::l,i,h,x,hx=>by
  rw[gq] at h
  split at h
  ·rename_i hn;exact absurd h hn
  ·rename_i hn
   rcases List.mem_cons.1 hx with rfl|hx
   ·omega
   ·exact Wv l (i+1) h x hx
theorem lC {p:List Ins} (h:(jH p).2=0):p.length≤32∧∀x∈p,mO x p.length=0:=by
 unfold jH at h
 split at h
 ·cases h
 ·exact⟨by omega,Wv p 0 h⟩
end Go.Is
end
section
namespace Go.Proofs.YtajjljbmfdboaaaGreatDoor
open Go Go.Ab Go.Is
theorem zg {g n sz i:Nat} {x:Int} {k:Value→Prop} (hx:x=(i:Int)) (hi:i<n) (hk:k (pt g (i*sz) 0)):aZ (mX n sz (.pointer (some ⟨g,0,none⟩)) (I x)) k:=by
 subst hx
 exact fA (b:=g) (o:=0) (j:=0) (by omega) (by omega) (by simpa [pt] using hk)
theorem lU {α:Type} {l:List α} {i:Nat} (h:i<l.length):∃x,l[i]?=some x∧l.drop i=x::l.drop (i+1):=⟨l[i],by simp,List.drop_eq_getElem_cons h⟩
set_option maxRecDepth 100000
attribute [local irreducible] aZ Br oM rI sQ Bi lE tH kU Qb gI lF pD pW oR kH zH tJ W2 Ut Qa Nn T3 P6 Km Lx T2 jR mX rV iO copyV iB vL Va Uo Fm kB Lu Sv Vn nF rH wK zB Cl wX T1 rM qX jI gS cI cA
variable {G:Bg} {h:AH} {L L' M:List HP} {Q:Value→AH→Prop}
theorem fe {x:Int} (hk:Q (.bool (isO x)) h):Cl Pr K 184 [I x] h Q:=by
 refine cW (dM (aS (fun h1=>aU ?_) (fun h1=>?_)))
 ·show Q _ _;rw[show decide (x<12)=isO x from decide_eq_decide.2 (by omega)];exact hk
 ·show Q _ _;rw[show false=isO x from(decide_eq_false (by omega)).symm];exact hk
theorem Qz {kE v many:Int} (hk:Q (.bool (wU kE v many)) h):Cl Pr K 186 [I kE,I v,I many] h Q:=by
 unfold wU at hk
 refine cW (bC (aS (fun c=>?_) (fun n1=>bW (bC (aS (fun c=>?_) (fun n2=>bW (bC (aS (fun c=>?_) (fun n3=>bW (bC (aS (fun c=>?_) (fun n4=>bW (bC (aS (fun c=>?_) (fun n5=>bC ?_)))))))))))))))
 ·rw[if_pos c] at hk
  refine dM (aS (fun h1=>aU ?_) (fun h1=>?_))
  ·show Q _ _;rw[show decide (v<4)=decide (0≤v∧v<4) from decide_eq_decide.2 (by omega)];exact hk
  ·rw[decide_eq_false (by omega)] at hk;exact hk
 ·rw[if_neg n1,if_pos c] at hk;exact hk
 ·rw[if_neg n1,if_neg n2,if_pos c] at hk
  refine dM (aS (fun h1=>xR ?_) (fun h1=>?_))
  ·show Q _ _;rw[show decide (v≤3)=decide (1≤v∧v≤3) from decide_eq_decide.2 (by omega)];exact hk
  ·rw[decide_eq_false (by omega)] at hk;exact hk
 ·rw[if_neg n1,if_neg n2,if_neg n3,if_pos c] at hk
  refine dM (aS (fun h1=>xR ?_) (fun h1=>?_))
  ·show Q _ _;rw[show decide (v≤4)=decide (1≤v∧v≤4) from decide_eq_decide.2 (by omega)];exact hk
  ·rw[decide_eq_false (by omega)] at hk;exact hk
 ·rw[if_neg n1,if_neg n2,if_neg n3,if_neg n4,if_pos c] at hk
  refine dM (aS (fun h1=>xR ?_) (fun h1=>?_))
  ·show Q _ _;rw[show decide (v≤many)=decide (0≤v∧v≤many) from decide_eq_decide.2 (by omega)];exact hk
  ·rw[decide_eq_false (by omega)] at hk;exact hk
 ·rw[if_neg n1,if_neg n2,if_neg n3,if_neg n4,if_neg n5] at hk;exact hk
def prE (p:Int×Int):List Value:=[I p.1,I p.2]
theorem I8 {x:Ins} (hs:Hs G h L) (hk:∀p h',Hs G h' (aE p 0 x.enc::L)→Q (.func (.func 239) #[] #[pt p 0 0]) h'):Cl Pr K 185 [.agg ⟨x.enc⟩] h Q:=by
 exact cW (dJ hs fun p h hs=>hk _ _ hs)
theorem Ke {x:Ins} {p:Nat} (ho:isO x.op=true) (hg:Ob G 1 sF):qy Pr K G 239 [] [pt p 0 0] (aE p 0 x.enc) (x.Df.map prE):=by
 intro I' J y L h Q hs hy h1 h2
 have hop:=of_decide_eq_true ho
 refine cW ?_
 refine aA (aC hs rfl (aA (aC hs rfl (aA (aC hs rfl (aK (c:=x.Kg.map I) rfl ?_))))))
 have loop:∀(f i:Nat) (h:AH),i+f=3→Hs G h (aE p 0 x.enc::I' ((x.Df.drop i).map prE)::L)→Dd 239 1 [] Q [y,(pt p 0 0),(.agg ⟨x.Kg.map I⟩),(I i)] h:=by
  intro f
  induction f with
  |zero=>
   intro i h hi hs
   rw[List.drop_of_length_le (by rw[Lc ho];omega)] at hs
   exact bW (aU (aI (by omega) (h1 _ _ hs)))
  |succ f ih=>
   intro i h hi hs
   obtain⟨q,hq,hd⟩:=lU (l:=x.Df) (i:=i) (by rw[Lc ho];omega)
   rw[C1 ho (by omega)] at hq
   simp only[Option.some.injEq] at hq
   rw[hd] at hs
   have e0:i=0∨i=1∨i=2:=by omega
   have ev:(x.Kg.map I)[i]?=some (I q.2):=by
    rw[←hq]
    rcases e0 with rfl|rfl|rfl<;>rfl
   refine bW (aU (bM (by omega) (bW (Yc (by omega) ev (aA (aC hs rfl (zg (i:=x.op.toNat) (by omega) (by omega) (aA (dF (by omega) ?_)))))))))
   refine xB hs hg (qs (by omega) (by omega)) ?_
   have hv:(Aa x.op.toNat).getD i 0=q.1:=by rw[←hq]
   rw[hv]
   refine(hy _ _ h _ hs.kI).mono fun v h' hv=>?_
   rcases hv with⟨rfl,hs'⟩|⟨rfl,hs'⟩
   ·exact bU (bS (bW (bI (by omega) (ih (i+1) h' (by omega) hs'.kI))))
   ·exact bU (dY (h2 _ _ hs'.kI))
 exact loop 3 0 h rfl hs
abbrev myX (p1 p5:Nat) (many v:Int) (e:Nat→Value) (d l:Nat) (z:LoopState×Option Code) (c:Prop):HP:=sp [zD c,nE Pr 148 (nB 442) 22 e d l z,aE p5 0 [I many],aE p1 0 [I v]]
theorem U9 {x:Ins} {many:Int} (hg:Ob G 1 sF) (hs:Hs G h L) (hk:∀h',Hs G h' L→Q (I (mO x many)) h'):Cl Pr K 148 [.agg ⟨x.enc⟩,I many] h Q:=by
 refine cW (dJ hs fun p2 h hs=>dJ hs fun p5 h hs=>aA (aC hs rfl (fe (bU (dI (dA (fun ho=>?_) (fun ho=>?_)))))))
 rotate_left
 ·have:=hk h hs.tail.tail
  unfold mO at this
  rw[if_neg (by rw[ho];decide)] at this
  exact jU this
 unfold mO at hk
 rw[if_pos ho] at hk
 refine bW (bK hs fun p1 h hs=>bA hs rfl rfl rfl rfl fun h hs=>aN hs (by decide) (l:=x.enc) rfl rfl (I8 hs fun p h hs=>mW hs fun d h hs=>?_))
 intro e he
 refine qP hs fun l h hs=>vZ rfl ?_
 have hs:Hs G h (aE p 0 x.enc::myX p1 p5 many 0 e d l (.ready,none) ((([]:List (Int×Int)).all fun p=>wU p.1 p.2 many)=true)::mk d ()::L):=by
  refine Hs.kI (vN rfl (Hs.T4 ?_))
  have hs:=hs.cU (nE Pr 148 (nB 442) 22 e d l (.ready,none)) (aE p5 0 [I many]) (aE p1 0 [I 0])
  exact hs.to
 refine(Ke (p:=p) ho hg).fold (X:=fun done=>myX p1 p5 many 0 e d l (.ready,none) ((done.all fun p=>wU p.1 p.2 many)=true)) (Z:=fun _ y=>myX p1 p5 many 10 e d l (.done,some (.exit 0)) (wU y.1 y.2 many=false)) hs ?_ ?_ ?_
 ·intro done y h M hp hs
  obtain⟨hd,hs1⟩:=gF hs
  clear hs
  have hs:=hs1.Bk
  refine rW (xD hs) he (kA hs fun h hs=>aC (b:=p5) (o:=0) hs rfl (Qz (bU (dI (dA (fun h1=>?_) (fun h1=>?_))))))
  ·refine jS hs fun h hs=> .inl ⟨rfl,vN ?_ (Hs.T4 hs.to)⟩
   rw[List.all_append,hd]
   simp[h1]
  ·refine bA (b:=p1) (o:=0) hs rfl rfl rfl rfl fun h hs=>jS hs fun h hs=> .inr ⟨rfl,vN h1 (Hs.T4 ?_)⟩
   exact hs.to
 ·intro v h hs
  have hs:=hs.front (myX p1 p5 many 0 e d l (.ready,none) ((x.Df.all fun p=>wU p.1 p.2 many)=true))
  obtain⟨hd,hs1⟩:=gF hs
  clear hs
  have hs:=hs1.Bk
  rw[if_pos hd] at hk
  exact qQ hs fun h hs=>qL (aC (b:=p1) (o:=0) hs rfl (mH hs fun h hs=>jU (hk _ hs.to)))
 ·intro done y v h hp hs
  have hs:=hs.front (myX p1 p5 many 10 e d l (.done,some (.exit 0)) (wU y.1 y.2 many=false))
  obtain⟨hd,hs1⟩:=gF hs
  clear hs
  have hs:=hs1.Bk
  rw[if_neg ?_] at hk
  ·exact I9 hs fun h hs=>O7 rfl (aC (b:=p1) (o:=0) hs rfl (mH hs fun h hs=>jU (hk _ hs.to)))
  ·obtain⟨ys,hys⟩:=hp
   rw[←hys]
   simp[hd]
theorem Ih {t:Value} {p:List Ins} {_v0 v1:Value} {e:TypeId} (h1:v1=I p.length) (hl:p.length≤32) (hg:Ob G 1 sF) (hk:∀h',Hs G h' (wY G 4 e t (p.map Ins.enc)::L)→Q (.tuple ⟨[I (jH p).1,I (jH p).2]⟩) h'):
  ∀(f i:Nat) (h:AH),i+f=p.length→jH p=gq p.length (p.drop i) i→Hs G h (wY G 4 e t (p.map Ins.enc)::L)→Dd 91 2 [] Q [t,t,v1,(I i)] h:=by
 subst h1
 intro f
 induction f with
 |zero=>
  intro i h hi he hs
  rw[List.drop_of_length_le (by omega)] at he
  rw[he] at hk
  exact bW (aU (aI (by omega) (hk _ hs)))
 |succ f ih=>
  intro i h hi he hs
  obtain⟨x,hx,hd⟩:=lU (l:=p) (i:=i) (by omega)
  rw[hd,gq] at he
  obtain⟨ta,tc,ht⟩:=sW hs
  refine bW (aU (bM (by omega) (bW (vk hs (by decide) (i:=i) (x:=x.enc) (by simp[hx]) (bK hs fun p3 h hs=>?_)))))
  refine bA hs rfl rfl rfl rfl fun h hs=>aN hs (by decide) (l:=x.enc) rfl rfl ?_
  rw[ht]
  refine bZ ?_
  rw[←ht,List.length_map]
  refine U9 hg hs fun h hs=>aX (aS (fun c=>?_) (fun c=>?_))
  ·rw[if_pos c] at he
   rw[he] at hk
   exact bI (by omega) (hk _ hs.tail)
  ·rw[if_neg c] at he
   exact bW (bI (by omega) (ih (i+1) h (by omega) he hs.tail))
theorem Cp {t:Value} {p:List Ins} {e:TypeId} (hg:Ob G 1 sF) (hs:Hs G h (wY G 4 e t (p.map Ins.enc)::L)) (hk:∀h',Hs G h' (wY G 4 e t (p.map Ins.enc)::L)→Q (.tuple ⟨[I (jH p).1,I (jH p).2]⟩) h'):
  Cl Pr K 91 [t] h Q:=by
 obtain⟨ta,tc,ht⟩:=sW hs
 have len:∀{k:Value→Prop},k (I p.length)→aZ (kH t) k:=fun hk=>by
  rw[ht];refine bZ ?_;rw[List.length_map];exact hk
 refine cW (len (kG (aS (fun c=>?_) (fun c=>?_))))
 ·have:=hk h hs
  unfold jH at this
  rw[if_pos (by omega)] at this
  exact this
 ·refine bW (len (Ih (_v0:=t) rfl (by omega) hg hk p.length 0 h (by omega) ?_ hs))
  unfold jH
  rw[if_neg (by omega)]
  rfl
end Go.Proofs.YtajjljbmfdboaaaGreatDoor
end
section
namespace Go.At
open Go Go.Ab Go.Hm Go.Is
structure Ev where
 core:Int
 at':Int
 op:Int
 world:Int
 word:Int
 value:Int
 code:Int
 deriving DecidableEq
def Ev.enc (x:Ev):List Value:=[I x.core,I x.at',I x.op,I x.world,I x.word,I x.value,I x.code]
def D5:Ev:=⟨0,0,0,0,0,0,0⟩
structure aY where
 cX:Nat→Int
 at':Int
 world:Int
 over:Bool
 prog:List Ins
def aY.core (s:aY):List Value:=[I (s.cX 0),I (s.cX 1),I (s.cX 2),I (s.cX 3),I s.at',I s.world,.bool s.over]
def vU (p:List Ins) (a:Int):Ins:=p.getD a.toNat ⟨0,0,0,0⟩
def Cs (p:List Ins) (a:Int):Bool:=if(p.length:Int)≤a then true else decide ((vU p a).op=11)
def aY.nA (s:aY) (a:Int):aY:={s with at':=a,over:=Cs s.prog a}
def aY.dN (s:aY) (i v:Int):aY:={s with cX:=bT s.cX i.toNat v}
def aY.kh (s:aY) (v:Int):aY:={s with world:=v}
def Mb (mem:Nat→Ln) (w:Nat):Int:=if w % 2=0 then(mem (w/2)).1 else(mem (w/2)).2
def Le (mem:Nat→Ln) (w:Nat) (v:Int):Nat→Ln:=bT mem (w/2) (if w % 2=0 then(v,(mem (w/2)).2) else((mem (w/2)).1,v))
def zL (mem:Nat→Ln) (g:Nat):Nat→Ln:=bT (bT mem (g*2) (0,0)) (g*2+1) (0,0)
structure AM where
 cfg:bQ
 aH:Nat→aY
 eA:List Int
 mem:Nat→Ln
def AM.vT (m:AM) (i:Nat) (s:aY):AM:={m with aH:=bT m.aH i s}
def AM.mG (m:AM) (mem:Nat→Ln):AM:={m with mem:=mem}
def AM.Es (m:AM) (o:List Int):AM:={m with eA:=o}
def Fl (world owner:Int):Bool:=if 0≤world∧world≤3∧0≤owner∧owner≤4 then decide (world=0∨owner=world∨owner=4) else false
def AM.may (m:AM) (world word:Int):Bool:=if 0≤word∧word<m.cfg.lines*2 then Fl world (m.eA.getD (word.toNat/4) 0) else false
def AM.access (m:AM) (i:Nat) (x:Ins):AM×Int×Int:=
 if m.may (m.aH i).world ((m.aH i).cX x.b.toNat) then
  if x.op=3 then(m.vT i ((m.aH i).dN x.a (Mb m.mem ((m.aH i).cX x.b.toNat).toNat)),Mb m.mem ((m.aH i).cX x.b.toNat).toNat,0)
  else if x.op=4 then(m.mG (Le m.mem ((m.aH i).cX x.b.toNat).toNat ((m.aH i).cX x.a.toNat)),(m.aH i).cX x.a.toNat,0)
  else((m.mG (Le m.mem ((m.aH i).cX x.b.toNat).toNat ((m.aH i).cX x.a.toNat))).vT i ((m.aH i).dN x.a (Mb m.mem ((m.aH i).cX x.b.toNat).toNat)),Mb m.mem ((m.aH i).cX x.b.toNat).toNat,0)
 else(m,0,19)
def jG (call world owner to:Int):Int×Bool×Int:=
 if ¬((0≤world∧world≤3)∧(0≤owner∧owner≤4)) then(0,false,10)
 else if call=1 then(if world≠0 then(0,false,18) else if owner≠0 then(0,false,16) else if ¬(1≤to∧to≤3) then(0,false,1) else(to,true,0))
 else if call=2 then(if owner=0 then(0,false,16) else if world≠0∧world≠owner then(0,false,18) else(0,true,0))
 else if call=3 then(if world=0∨world≠owner then(0,false,18) else if ¬(1≤to∧to≤3)∨to=owner then(0,false,1) else(to,true,0))
 else if call=4 then(if owner=4 then(0,false,16) else if world≠owner then(0,false,18) else(4,false,0))
 else(0,false,15)
def AM.call (m:AM) (call world granule to:Int) (busy:Bool):AM×Int:=
 if ¬(0≤granule∧granule<m.eA.length) then(m,10)
 else if busy then(m,17)
 else if(jG call world (m.eA.getD granule.toNat 0) to).2.2≠0 then(m,(jG call world (m.eA.getD granule.toNat 0) to).2.2)
 else((m.Es (m.eA.set granule.toNat (jG call world (m.eA.getD granule.toNat 0) to).1)).mG (if(jG call world (m.eA.getD granule.toNat 0) to).2.1 then zL m.mem granule.toNat else m.mem),0)
def AM.nA (m:AM) (i:Nat) (a:Int):AM:=m.vT i ((m.aH i).nA a)
def AM.Np (m:AM) (i:Nat) (x:Ins) (busy:Bool):AM×Int×Int×Int×Int:=
 if x.op=1 then(m.vT i ((m.aH i).dN x.a x.b),0,x.b,0,(m.aH i).at'+1)
 else if x.op=2 then(m.vT i ((m.aH i).dN x.a (wr ((m.aH i).cX x.b.toNat+(m.aH i).cX x.c.toNat))),0,wr ((m.aH i).cX x.b.toNat+(m.aH i).cX x.c.toNat),0,(m.aH i).at'+1)
 else if x.op=3∨x.op=4∨x.op=5 then((m.access i x).1,(m.aH i).cX x.b.toNat,(m.access i x).2.1,(m.access i x).2.2,(m.aH i).at'+1)
 else if x.op=7 then(if(m.aH i).world=0 then(m.vT i ((m.aH i).kh x.a),0,x.a,0,(m.aH i).at'+1) else(m,0,x.a,18,(m.aH i).at'+1))
 else if x.op=8 then((m.call x.a (m.aH i).world ((m.aH i).cX x.b.toNat) ((m.aH i).cX x.c.toNat) busy).1.vT i ((m.aH i).dN x.b (m.call x.a (m.aH i).world ((m.aH i).cX x.b.toNat) ((m.aH i).cX x.c.toNat) busy).2),(m.aH i).cX x.b.toNat,(m.aH i).cX x.c.toNat,(m.call x.a (m.aH i).world ((m.aH i).cX x.b.toNat) ((m.aH i).cX x.c.toNat) busy).2,(m.aH i).at'+1)
 else if x.op=9 then(m,0,x.a,0,x.a)
 else if x.op=10 then(m,0,(m.aH i).cX x.a.toNat,0,if(m.aH i).cX x.a.toNat=0 then x.b else(m.aH i).at'+1)
 else(m,0,0,0,(m.aH i).at'+1)
def AM.step (m:AM) (core:Int) (busy:Bool):AM×Ev×Int:=
 if ¬(0≤core∧core<m.cfg.aF) then(m,D5,10)
 else if(m.aH core.toNat).over then(m,D5,20)
 else
  let s:=m.aH core.toNat
  let x:=vU s.prog s.at'
  let r:=m.Np core.toNat x busy
  (r.1.nA core.toNat r.2.2.2.2,⟨core,s.at',x.op,s.world,r.2.1,r.2.2.1,r.2.2.2.1⟩,0)
def aY.Ok (s:aY):Prop:=0≤s.at'∧s.at'≤32∧s.over=Cs s.prog s.at'∧s.prog.length≤32∧∀x∈s.prog,mO x s.prog.length=0
structure AM.Ok (m:AM):Prop where
 cfg:m.cfg.Ok
 aH:∀i:Nat,(i:Int)<m.cfg.aF→(m.aH i).Ok
 eA:(m.eA.length:Int)=m.cfg.bP
def qN:List (List Ins)→Int
 |[]=>0
 |p::l=>if(jH p).2≠0 then(jH p).2 else qN l
def within (a b:Int) (l:List Int):Bool:=l.all fun x=>decide (a≤x∧x≤b)
def Aw (C:bQ) (ps:List (List Ins)) (ws os vs:List Int):Int:=
 if ¬C.Ok then 10
 else if(ps.length:Int)≠C.aF∨(ws.length:Int)≠C.aF∨(os.length:Int)≠C.bP∨vs.length≠C.lines*2 then 1
 else if qN ps≠0 then qN ps
 else if ¬(within 0 3 ws=true∧within 0 4 os=true) then 10
 else 0
def words (mem:Nat→Ln):List Int→Nat→Nat→Ln
 |[],_=>mem
 |v::l,i=>words (Le mem i v) l (i+1)
def pT (p:List Ins) (w:Int):aY:={cX:=fun _=>0,at':=0,world:=w,over:=Cs p 0,prog:=p}
def aDe (C:bQ) (ps:List (List Ins)) (ws os vs:List Int):AM:=⟨C,fun i=>pT (ps.getD i []) (ws.getD i 0),os,words mY vs 0⟩
theorem nk {x:Ins} {n:Int} (h:mO x n=0):(1≤x.op∧x.op<12)∧wU ((Aa x.op.toNat).getD 0 0) x.a n=true∧wU ((Aa x.op.toNat).getD 1 0) x.b n=true∧wU ((Aa x.op.toNat).getD 2 0) x.c n=true:=by
 unfold mO at h
 split at h
 ·rename_i ho
  split at h
  ·rename_i hp
   have hall:=List.all_eq_true.1 hp
   refine⟨of_decide_eq_true ho,?_,?_,?_⟩
   ·exact hall _ (List.mem_of_getElem? (C1 ho (i:=0) (by omega)))
   ·exact hall _ (List.mem_of_getElem? (C1 ho (i:=1) (by omega)))
   ·exact hall _ (List.mem_of_getElem? (C1 ho (i:=2) (by omega)))
  ·cases h
 ·cases h
structure Fits (x:Ins) (n:Int):Prop where
 r1:x.op=1∨x.op=2∨x.op=3∨x.op=4∨x.op=5∨x.op=10→0≤x.a∧x.a<4
 r2:x.op=2∨x.op=3∨x.op=4∨x.op=5∨x.op=8→0≤x.b∧x.b<4
 r3:x.op=2∨x.op=8→0≤x.c∧x.c<4
 p1:x.op=9→0≤x.a∧x.a≤n
 p2:x.op=10→0≤x.b∧x.b≤n
theorem Tp {x:Ins} {n:Int} (h:mO x n=0):Fits x n:=by
 obtain⟨_,h1,h2,h3⟩:=nk h
 refine⟨fun e=>?_,fun e=>?_,fun e=>?_,fun e=>?_,fun e=>?_⟩
 ·rcases e with e|e|e|e|e|e<;>rw[e] at h1<;>exact of_decide_eq_true h1
 ·rcases e with e|e|e|e|e<;>rw[e] at h2<;>exact of_decide_eq_true h2
 ·rcases e with e|e<;>rw[e] at h3<;>exact of_decide_eq_true h3
 ·rw[e] at h1;exact of_decide_eq_true h1
 ·rw[e] at h2;exact of_decide_eq_true h2
theorem Po {p:List Ins} {a:Int} (h:Cs p a=false):a<p.length:=by
 unfold Cs at h
 split at h
 ·cases h
 ·omega
theorem Q7 {p:List Ins} {a:Int} (h0:0≤a) (h:a<p.length):vU p a∈p:=by
 unfold vU
 rw[List.getD_eq_getElem?_getD,List.getElem?_eq_getElem (by omega)]
 exact List.getElem_mem _
end Go.At
end
section
open Go Go.Ab
attribute [local irreducible] aZ Br oM rI sQ Bi lE tH kU Qb gI lF pD pW oR kH zH tJ W2 Ut Qa Nn T3 P6 Km Lx T2 jR mX rV iO copyV iB vL Va Uo Fm kB Lu Sv Vn nF rH wK zB Cl wX T1 rM qX jI gS cI cA
section
namespace Go.Proofs.YtajjljbmfdboaaaGreatDoor
open Go Go.Ab Go.Hm Go.At
set_option maxRecDepth 100000
variable {G:Bg} {h:AH} {L L':List HP} {Q:Value→AH→Prop}
theorem ba {C:bQ} (hl:Ob G 0 fB) (hs:Hs G h L) (hk:∀h',Hs G h' L→Q (I (if C.Ok then C.lines else 0:Nat)) h'):Cl Pr K 63 [.agg ⟨C.enc⟩] h Q:=by
 by_cases hC:C.Ok
 ·rw[if_pos hC] at hk
  exact oX hC hl hs hk
 ·rw[if_neg hC] at hk
  refine cW ?_
  refine dJ hs ?_
  intro p h hs
  refine aN hs (by decide) (l:=C.enc) rfl rfl (lC hl hs fun h hs=>?_)
  rw[if_neg hC]
  exact aX (bM (by omega) (hk _ hs.tail))
theorem dj {C:bQ} (hl:Ob G 0 fB) (hs:Hs G h L) (hk:∀h',Hs G h' L→Q (I ((if C.Ok then C.lines else 0:Nat)*2:Nat)) h'):Cl Pr K 90 [.agg ⟨C.enc⟩] h Q:=by
 refine cW (dJ hs fun p h hs=>?_)
 refine aN hs (by decide) (l:=C.enc) rfl rfl (ba hl hs fun h hs=>?_)
 have hb:(if C.Ok then C.lines else 0:Nat)≤32:=by
  split
  ·rename_i hC;exact(bQ.fJ hC).2.2
  ·omega
 refine Ay (by omega) ?_
 have:=hk _ hs.tail
 rw[Int.natCast_mul] at this
 exact this
theorem Sz {C:bQ} (hC:C.Ok) (hl:Ob G 0 fB) (hs:Hs G h L) (hk:∀h',Hs G h' L→Q (I (C.lines*2:Nat)) h'):Cl Pr K 90 [.agg ⟨C.enc⟩] h Q:=
 dj hl hs (by rw[if_pos hC];exact hk)
theorem Dq {C:bQ} (hC:C.Ok) {w:Int} (hl:Ob G 0 fB) (hs:Hs G h L)
  (hk:∀h',Hs G h' L→Q (if 0≤w∧w<C.lines*2 then .tuple ⟨[I (w.toNat/2:Nat),I (w.toNat % 2:Nat),I 0]⟩ else .tuple ⟨[I 0,I 0,I 10]⟩) h'):Cl Pr K 182 [.agg ⟨C.enc⟩,I w] h Q:=by
 refine cW (dJ hs fun p h hs=>aU (aS (fun h1=>?_) (fun h1=>?_)))
 ·have:=hk _ hs.tail
  rw[if_neg (by omega)] at this;exact this
 ·refine aN hs (by decide) (l:=C.enc) rfl rfl (Sz hC hl hs fun h hs=>dM (aS (fun h2=>?_) (fun h2=>?_)))
  ·have:=hk _ hs.tail
   rw[if_neg (by omega)] at this;exact this
  ·have hb:=(bQ.fJ hC).2.2
   have:=hk _ hs.tail
   rw[if_pos (by omega)] at this
   obtain⟨n,rfl⟩:∃n:Nat,w=n:=⟨w.toNat,by omega⟩
   refine By (by omega) (by omega) (by omega) (Ra (by omega) (by omega) ?_)
   exact this
theorem Wg {C:bQ} (hC:C.Ok) {l:Nat} (h0:l<C.lines) (hl:Ob G 0 fB) (hs:Hs G h L)
  (hk:∀h',Hs G h' L→Q (.tuple ⟨[I (l/2:Nat),I 0]⟩) h'):Cl Pr K 191 [.agg ⟨C.enc⟩,I l] h Q:=by
 have hb:=(bQ.fJ hC).2.2
 refine cW (dJ hs fun p h hs=>aU (aI (by omega) ?_))
 refine aN hs (by decide) (l:=C.enc) rfl rfl (oX hC hl hs fun h hs=>dM (aI (by omega) ?_))
 exact By (by omega) (by omega) (by omega) (hk _ hs.tail)
theorem A5 {C:bQ} {g:Int} (hs:Hs G h L) (hk:∀p q h',Hs G h' (sp [aE p 0 C.enc,aE q 0 [I g]]::L)→Q (.func (.func 167) #[] #[pt p 0 0,pt q 0 0]) h'):Cl Pr K 120 [.agg ⟨C.enc⟩,I g] h Q:=
 cW (dJ hs fun p _ hs=>dJ hs fun q h hs=>hk p q h (Hs.Ex hs.kI))
theorem Dm {C:bQ} (hC:C.Ok) {g:Nat} (hg:(g:Int)<C.bP) {p q:Nat} (hl:Ob G 0 fB):qy Pr K G 167 [] [pt p 0 0,pt q 0 0] (sp [aE p 0 C.enc,aE q 0 [I g]]) ([g*2,g*2+1].map fun l:Nat=>[I l]):=by
 intro I' J y L h Q hs hy h1 h2
 have hb:C.bP≤16:=hC.2.1.2
 have hs:=hs.D2
 refine cW (aN hs (by decide) (l:=C.enc) rfl rfl (lC hl hs fun h hs=>?_))
 rw[if_pos hC]
 refine aX (aI (by omega) (aC (b:=q) (o:=0) hs rfl (aU (aI (by omega) (aC (b:=q) (o:=0) hs rfl (aA (aC (b:=p) (o:=0) hs rfl (dM (aI (by omega) (bW ?_))))))))))
 have loop:∀(f i:Nat) (h:AH),i+f=2→Hs G h (aE p 0 C.enc::aE q 0 [I g]::I' (([g*2,g*2+1].drop i).map fun l:Nat=>[I l])::L)→Dd 167 2 [] Q [y,(pt q 0 0),(I i)] h:=by
  intro f
  induction f with
  |zero=>
   intro i h hi hs
   obtain rfl:i=2:=by omega
   exact bW (aU (aI (by omega) (h1 _ _ (Hs.Ex hs))))
  |succ f ih=>
   intro i h hi hs
   refine bW (aU (bM (by omega) (bW (aC (b:=q) (o:=0) hs rfl (Ay (by omega) (bI (by omega) ?_))))))
   obtain⟨x,hx,hd⟩:=lU (l:=[g*2,g*2+1]) (i:=i) (by simp;omega)
   have e0:i=0∨i=1:=by omega
   have ex:x=g*2+i:=by rcases e0 with rfl|rfl<;>simp at hx<;>omega
   rw[hd,List.map_cons] at hs
   rw[show((g:Int)*2+(i:Int))=((x:Nat):Int) by omega]
   refine(hy _ _ h _ (hs.front (I' ([I (x:Nat)]::([g*2,g*2+1].drop (i+1)).map fun l:Nat=>[I l])))).mono fun v h' hv=>?_
   rcases hv with⟨rfl,hs'⟩|⟨rfl,hs'⟩
   ·exact bU (bS (bW (bI (by omega) (ih (i+1) h' (by omega) hs'.to))))
   ·exact bU (dY (h2 _ _ (Hs.Ex hs'.to)))
 exact loop 2 0 h rfl hs
theorem Cj {o:Int} (hk:Q (.bool (decide (0≤o∧o≤4))) h):Cl Pr K 183 [I o] h Q:=by
 refine cW (dM (aS (fun h1=>xR ?_) (fun h1=>?_)))
 ·show Q _ _;rw[show decide (o≤4)=decide (0≤o∧o≤4) from decide_eq_decide.2 (by omega)];exact hk
 ·show Q _ _;rw[show false=decide (0≤o∧o≤4) from(decide_eq_false (by omega)).symm];exact hk
theorem Pa {w o:Int} (hk:Q (.bool (Fl w o)) h):Cl Pr K 243 [I w,I o] h Q:=by
 unfold Fl at hk
 refine cW (aU (aS (fun h1=>?_) (fun h1=>kG (aS (fun h2=>?_) (fun h2=>Cj (bU (dI (aS (fun h3=>?_) (fun h3=>?_)))))))))
 ·rw[if_neg (by omega)] at hk;exact hk
 ·rw[if_neg (by omega)] at hk;exact hk
 ·rw[if_pos (by omega)] at hk
  refine bC (aS (fun h4=>?_) (fun h4=>bC (aS (fun h5=>?_) (fun h5=>bC ?_))))
  ·rw[decide_eq_true (.inl h4)] at hk;exact hk
  ·rw[decide_eq_true (.inr (.inl h5))] at hk;exact hk
  ·rw[show decide (w=0∨o=w∨o=4)=decide (o=4) from decide_eq_decide.2 (by omega)] at hk;exact hk
 ·rw[if_neg (by omega)] at hk;exact hk
end Go.Proofs.YtajjljbmfdboaaaGreatDoor
end
end
section
namespace Go.Hm
open Go Go.Ab
structure aQ where
 kind:Int
 core:Int
 line:Int
 world:Int
 state:Int
 d0:Int
 d1:Int
 Cw:Bool
 no:Int
 deriving DecidableEq
def aQ.enc (n:aQ):List Value:=[I n.kind,I n.core,I n.line,I n.world,I n.state,I n.d0,I n.d1,.bool n.Cw,I n.no]
def aQ.zero:aQ:=⟨0,0,0,0,0,0,0,false,0⟩
def eF (l:List aQ):List Value:=l.flatMap aQ.enc
theorem uR (l m:List aQ):eF (l++m)=eF l++eF m:=by simp[eF]
@[simp] theorem Jn (n:aQ) (l:List aQ):eF (n::l)=n.enc++eF l:=rfl
@[simp] theorem Lw:eF []=[]:=rfl
structure Row where
 owner:Int
 sh:Nat→Bool
 waits:List aQ
 busy:Bool
 served:aQ
 world:Int
 asked:Nat→Bool
 granted:Bool
 told:Bool
 d0:Int
 d1:Int
def Row.enc (r:Row) (a:Option Addr) (c:Nat):List Value:=
 [I r.owner,.bool (r.sh 0),.bool (r.sh 1),.bool (r.sh 2),.bool (r.sh 3),.slice a r.waits.length c,.bool r.busy,I r.served.kind,I r.served.core,I r.served.line,I r.served.world,I r.served.state,I r.served.d0,I r.served.d1,.bool r.served.Cw,I r.served.no,
   I r.world,.bool (r.asked 0),.bool (r.asked 1),.bool (r.asked 2),.bool (r.asked 3),.bool r.granted,.bool r.told,I r.d0,I r.d1]
def Row.V4 (r:Row):List Value:=[I r.owner,.bool (r.sh 0),.bool (r.sh 1),.bool (r.sh 2),.bool (r.sh 3)]
def Row.Jb (r:Row) (a:Option Addr) (c:Nat):List Value:=
 [.slice a r.waits.length c,.bool r.busy,I r.served.kind,I r.served.core,I r.served.line,I r.served.world,I r.served.state,I r.served.d0,I r.served.d1,.bool r.served.Cw,I r.served.no,
   I r.world,.bool (r.asked 0),.bool (r.asked 1),.bool (r.asked 2),.bool (r.asked 3),.bool r.granted,.bool r.told,I r.d0,I r.d1]
theorem Row.Zo (r:Row) (a:Option Addr) (c:Nat):r.enc a c=r.V4++r.Jb a c:=rfl
def vA (f:Nat→Bool) (i:Int) (v:Bool):Nat→Bool:=fun j=>if(j:Int)=i then v else f j
def Row.free (r:Row):Row:={r with busy:=false,granted:=false,told:=false,served:=aQ.zero,world:=0,d0:=0,d1:=0}
def Row.leave (r:Row) (core:Int):Row:={r with sh:=vA r.sh core false,owner:=if r.owner=core then -1 else r.owner}
def Row.holds (r:Row) (but:Int) (i:Nat):Bool:=decide ((i:Int)≠but)&&(r.sh i||decide ((i:Int)=r.owner))
theorem pe {r:Row} {x:Int} {i:Nat} (h:(i:Int)≠x) (h1:r.sh i=true):r.holds x i=true:=by simp[Row.holds,h,h1]
theorem iz {r:Row} {x:Int} {i:Nat} (h:(i:Int)≠x) (h1:(i:Int)=r.owner):r.holds x i=true:=by
 unfold Row.holds;rw[decide_eq_true h,decide_eq_true h1];simp
theorem Yk {r:Row} {x:Int} {i:Nat} (h:(i:Int)=x):r.holds x i=false:=by
 unfold Row.holds;rw[decide_eq_false (by simpa using h)];rfl
theorem Y6 {r:Row} {x:Int} {i:Nat} (h:r.sh i=false) (h1:(i:Int)≠r.owner):r.holds x i=false:=by
 unfold Row.holds;rw[h,decide_eq_false h1];simp
def Row.xG (r:Row) (but:Int):Nat→Nat→Int
 |0,_=> -1
 |f+1,i=>if r.holds but i then i else r.xG but f (i+1)
def Row.first (r:Row) (but:Int):Int:=r.xG but 4 0
def Row.fR (r:Row) (but:Int):Nat→Nat→List Nat
 |0,_=>[]
 |f+1,i=>if r.holds but i then i::r.fR but f (i+1) else r.fR but f (i+1)
def Row.iP (r:Row) (but:Int):List Nat:=r.fR but 4 0
def Row.gB (r:Row) (l:List Nat):Row:={r with asked:=fun j=>r.asked j||l.contains j}
def gG (line state:Int) (l:List Nat):List aQ:=l.map fun(i:Nat)=>{aQ.zero with kind:=11,core:=(i:Int),line:=line,state:=state}
def Row.quiet (r:Row):Bool:= !(r.asked 0||r.asked 1||r.asked 2||r.asked 3)
abbrev rD:=Row×Ln
def Row.gd (r:Row) (m:Ln):Ln:=if r.told then(r.d0,r.d1) else m
def Row.pF (r:Row) (line st:Int) (d:Ln):aQ:=⟨8,r.served.core,line,r.world,st,d.1,d.2,false,0⟩
def Row.gK (r:Row) (line:Int) (d:Ln):Row×List aQ:=
 if r.served.kind=2 then({r with owner:=r.served.core,sh:=fun _=>false,granted:=true},[r.pF line 4 d])
 else if r.first r.served.core= -1 then({r with owner:=r.served.core,sh:=vA r.sh r.served.core false,granted:=true},[r.pF line 2 d])
 else({r with sh:=vA r.sh r.served.core true,granted:=true},[r.pF line 1 d])
def valid (s:Int):Bool:=decide (0≤s∧s<5)&&decide (s≠0)
def Row.kX (r:Row) (n:aQ):Row:={r with asked:=vA r.asked n.core false}
def Row.D4 (r:Row) (n:aQ):Row:={r with owner:= -1,sh:=vA r.sh n.core (valid n.state)}
def Row.pI (r:Row) (n:aQ):Row:={r with told:=true,d0:=n.d0,d1:=n.d1}
def Row.heard (r:Row) (n:aQ):Row:=
 if r.served.kind≠1 then(r.kX n).leave n.core
 else if n.state≠3 then(if n.Cw then((r.kX n).D4 n).pI n else(r.kX n).D4 n)
 else if n.Cw then(r.kX n).pI n else r.kX n
def Row.N9 (r:Row) (m:Ln) (n:aQ):Ln:=if r.served.kind≠1∧n.Cw=true then(n.d0,n.d1) else m
def Row.rest (r:Row) (line:Int) (m:Ln):Row×List aQ:=
 if r.quiet then(if r.served.kind=0 then(r.free,[]) else r.gK line (r.gd m)) else(r,[])
def rD.Kx (x:rD) (line:Int) (n:aQ):rD×List aQ:=
 let m:=x.1.N9 x.2 n
 let g:=(x.1.heard n).rest line m
 ((g.1,m),g.2)
def Row.serve (r:Row) (n:aQ) (world:Int):Row:={r with busy:=true,served:=n,world:=world}
def Row.getM (r:Row) (line:Int) (m:Ln):Row×List aQ:=
 if r.first r.served.core≠ -1 then(r.gB (r.iP r.served.core),gG line 0 (r.iP r.served.core)) else r.gK line (r.gd m)
def Row.Z7 (r:Row) (line:Int) (m:Ln):Row×List aQ:=
 if r.owner≠ -1 then(r.gB [r.owner.toNat],gG line 1 [r.owner.toNat]) else r.gK line (r.gd m)
def Row.rU (r:Row):Row:=if r.owner=r.served.core then {r with owner:= -1} else r
def Row.get (r:Row) (line:Int) (m:Ln) (n:aQ) (world:Int):Row×List aQ:=
 let r:=r.serve n world
 if n.kind=2 then r.getM line m else r.rU.Z7 line m
def Row.wait (r:Row) (n:aQ):Row:={r with waits:=r.waits++[n]}
def Row.next (r:Row) (w:List aQ):Row:={r with waits:=w}
def Row.Gq (r:Row) (n:aQ):Row:={r with busy:=true,served:=n}
def rD.take (x:rD) (line:Int) (n:aQ):rD×List aQ×Int:=
 if n.kind=4 then(if x.1.granted=false∨x.1.served.core≠n.core then(x,[],16) else((x.1.free,x.2),[],0))
 else if n.kind=5 then(if x.1.asked n.core.toNat=false then(x,[],16) else let g:=rD.Kx x line n;(g.1,g.2,0))
 else((x.1.wait n,x.2),[],0)
def Ar (line:Int):aQ:={aQ.zero with line:=line}
def rD.yc (x:rD) (line:Int):rD:=(x.1.wait (Ar line),x.2)
def Cm (kind core line:Int):aQ:={aQ.zero with kind:=kind,core:=core,line:=line}
def Row.begun (r:Row) (line:Int) (m:Ln) (n:aQ) (j:Int→Int×Bool):rD×List aQ:=
 if n.kind=3 then((r.leave n.core,if r.owner=n.core∧n.Cw=true then(n.d0,n.d1) else m),[Cm 10 n.core line])
 else if n.kind=1∨n.kind=2 then(if(j n.world).2=true then let g:=r.get line m n (j n.world).1;((g.1,m),g.2) else((r,m),[Cm 9 n.core line]))
 else if r.first (-1)= -1 then((r,m),[])
 else(((r.Gq n).gB (r.iP (-1)),m),gG line 0 (r.iP (-1)))
def rD.begin (x:rD) (line:Int) (j:Int→Int×Bool):rD×List aQ×Int:=
 if x.1.busy=true then(x,[],16)
 else match x.1.waits with
  |[]=>(x,[],12)
  |n::w=>let g:=Row.begun (x.1.next w) line x.2 n j;(g.1,g.2,0)
abbrev jO:=Nat→rD
def Bv:Row:=⟨-1,fun _=>false,[],false,aQ.zero,0,fun _=>false,false,false,0,0⟩
theorem E8 {r:Row} {x:Int}:∀(f i:Nat),i+f=4→(∀c∈r.fR x f i,c<4)∧(r.fR x f i).length≤f:=by
 intro f
 induction f with
 |zero=>intro i hi;simp[Row.fR]
 |succ f ih=>
  intro i hi
  obtain⟨h1,h2⟩:=ih (i+1) (by omega)
  unfold Row.fR
  split
  ·refine⟨fun c hc=>?_,by simp;omega⟩
   rcases List.mem_cons.1 hc with rfl|hc
   ·omega
   ·exact h1 c hc
  ·exact⟨h1,by omega⟩
theorem Ui {r:Row} {x:Int}:∀c∈r.iP x,c<4:=(E8 4 0 rfl).1
theorem rO {r:Row} {x:Int}:(r.iP x).length≤4:=(E8 4 0 rfl).2
def bQ.has (C:bQ) (l:Int):Prop:=0≤l∧l<C.lines
instance (C:bQ) (l:Int):Decidable (C.has l):=by unfold bQ.has;infer_instance
def fX (k:Int):Prop:=k=1∨k=2∨k=3∨k=4∨k=5
instance (k:Int):Decidable (fX k):=by unfold fX;infer_instance
def jO.at (H:jO) (l:Int):rD:=H l.toNat
def fZ (C:bQ) (H:jO) (n:aQ):jO×List aQ×Int:=
 if ¬fX n.kind then(H,[],15)
 else if(0≤n.core∧n.core<C.aF)∧C.has n.line then(bT H n.line.toNat (rD.take (H n.line.toNat) n.line n).1,(rD.take (H n.line.toNat) n.line n).2)
 else(H,[],10)
def jZ (C:bQ) (H:jO) (l:Int):jO×Int:=if C.has l then(bT H l.toNat (rD.yc (H l.toNat) l),0) else(H,10)
def jE (C:bQ) (H:jO) (l:Int) (j:Int→Int×Bool):jO×List aQ×Int:=
 if C.has l then(bT H l.toNat (rD.begin (H l.toNat) l j).1,(rD.begin (H l.toNat) l j).2) else(H,[],10)
structure Row.Inv (r:Row):Prop where
 core:0≤r.served.core∧r.served.core<4
 owner: -1≤r.owner∧r.owner<4
 waits:∀n∈r.waits,0≤n.core∧n.core<4
def vB (C:bQ) (H:jO) (N:Nat):Prop:=∀l,l<C.lines→(H l).1.Inv∧(H l).1.waits.length≤N
def rF (n:Nat):jO:=fun i=>if i<n then(Bv,(0,0)) else({Bv with owner:=0},(0,0))
theorem de {n:Nat}:bT (rF n) n (Bv,(0,0))=rF (n+1):=by
 funext i
 unfold bT rF
 by_cases h:i=n
 ·rw[if_pos h,if_pos (by omega)]
 ·rw[if_neg h]
  by_cases h2:i<n
  ·rw[if_pos h2,if_pos (by omega)]
  ·rw[if_neg h2,if_neg (by omega)]
def aQ.fits (n r:aQ) (len:Nat):Prop:=
 n.line=r.line∧n.no=0∧((n.kind=8∧n.core=r.core∧len=1∧(r.kind=1∨r.kind=2))∨(n.kind=9∧n.world=0∧n.core=r.core∧len=1∧(r.kind=1∨r.kind=2))∨
  (n.kind=10∧n.world=0∧n.core=r.core∧len=1∧r.kind=3)∨(n.kind=11∧n.world=0∧n.core≠r.core∧(r.kind=1∨r.kind=2∨(r.kind=0∧n.state=0))))
end Go.Hm
end
section
namespace Go.Ct
open Go Go.Ab Go.Hm
def Rs (s:Int):Bool:=decide (1≤s∧s≤4)
def tX (s:Int):Bool:=decide (s=2∨s=4)
def kS (s:Int):Bool:=decide (s=3∨s=4)
def Ef (s:Int):Bool:=decide (2≤s∧s≤4)
def sc (s:Int):Bool:=decide (0≤s∧s<5)
def Pb (s:Int):Int:=if s=2 then 1 else if s=4 then 3 else s
def pX (s:Int) (w:Bool):Bool:=if w then tX s else Rs s
structure pV where
 st:Int
 w:Int
 d:Ln
 deriving DecidableEq
def pV.enc (x:pV):List Value:=[I x.st,I x.w,I x.d.1,I x.d.2]
def pV.zero:pV:=⟨0,0,(0,0)⟩
abbrev Th:=Int×pV
def j5 (t:Th):List Value:=I t.1::t.2.enc
def eJ (l:List Th):List Value:=l.flatMap j5
theorem yW (l:List Th):(eJ l).length=l.length*5:=by
 induction l with
 |nil=>rfl
 |cons a t ih=>simp only[eJ,List.flatMap_cons,List.length_append] at ih ⊢;rw[ih];simp[j5,pV.enc];omega
theorem uJ (l:List Th):(eJ l).all eE=true:=by
 induction l with
 |nil=>rfl
 |cons a t ih=>simp only[eJ,List.flatMap_cons,List.all_append,Bool.and_eq_true] at ih ⊢;exact⟨rfl,ih⟩
theorem eb (l m:List Th):eJ (l++m)=eJ l++eJ m:=by simp[eJ]
theorem Uc (l:List Th) (i:Nat):(eJ l).take (i*5)=eJ (l.take i):=by
 induction l generalizing i with
 |nil=>simp[eJ]
 |cons a t ih=>
  cases i with
  |zero=>simp[eJ]
  |succ i=>
   have:(i+1)*5=5+i*5:=by omega
   simp only[eJ,List.flatMap_cons,List.take_succ_cons] at ih ⊢
   rw[this,List.take_append,List.take_of_length_le (by simp[j5,pV.enc])]
   have e5:(j5 a).length=5:=rfl
   rw[e5,show 5+i*5 - 5=i*5 by omega,ih]
theorem G0 (l:List Th) (i:Nat):(eJ l).drop (i*5)=eJ (l.drop i):=by
 induction l generalizing i with
 |nil=>simp[eJ]
 |cons a t ih=>
  cases i with
  |zero=>simp[eJ]
  |succ i=>
   have:(i+1)*5=5+i*5:=by omega
   simp only[eJ,List.flatMap_cons,List.drop_succ_cons] at ih ⊢
   have e5:(j5 a).length=5:=rfl
   rw[this,List.drop_append,List.drop_of_length_le (by rw[e5];omega),e5,show 5+i*5 - 5=i*5 by omega,ih,List.nil_append]
theorem Qv {l:List Th} {i:Nat} {t:Th} (h:l[i]?=some t):((eJ l).drop (i*5)).take 5=j5 t:=by
 rw[G0]
 have hi:=(List.getElem?_eq_some_iff.1 h)
 rw[List.drop_eq_getElem_cons hi.1,hi.2]
 simp only[eJ,List.flatMap_cons]
 exact List.take_left' rfl
def ix (no:Int):List Th→Option Nat
 |[]=>none
 |t::l=>if t.1=no then some 0 else(ix no l).map (·+1)
def gn (no:Int) (l:List Th):Int:=match ix no l with|some i=>i|none=> -1
def get (no:Int) (l:List Th):Option pV:=(l.find? fun t=>decide (t.1=no)).map (·.2)
def rem (no:Int):List Th→List Th
 |[]=>[]
 |t::l=>if t.1=no then l else t::rem no l
theorem vD {no:Int} {l:List Th} {i:Nat} (h:ix no l=some i):∃x,l[i]?=some (no,x)∧get no l=some x∧rem no l=l.take i++l.drop (i+1)∧i<l.length:=by
 induction l generalizing i with
 |nil=>cases h
 |cons t l ih=>
  simp only[ix] at h
  by_cases hc:t.1=no
  ·rw[if_pos hc] at h
   cases h
   exact⟨t.2,by simp[←hc],by simp[get,hc],by simp[rem,hc],by simp⟩
  ·rw[if_neg hc] at h
   cases hx:ix no l with
   |none=>rw[hx] at h;cases h
   |some j=>
    rw[hx] at h
    cases h
    obtain⟨x,h1,h2,h3,h4⟩:=ih hx
    refine⟨x,by simpa using h1,?_,?_,by simp;omega⟩
    ·simp only[get,List.find?_cons,decide_eq_false hc] at h2 ⊢;exact h2
    ·simp[rem,hc,h3]
theorem yN {no:Int} {l:List Th} (h:ix no l=none):get no l=none∧rem no l=l:=by
 induction l with
 |nil=>exact⟨rfl,rfl⟩
 |cons t l ih=>
  simp only[ix] at h
  by_cases hc:t.1=no
  ·rw[if_pos hc] at h;cases h
  ·rw[if_neg hc] at h
   obtain⟨h1,h2⟩:=ih (by simpa using h)
   refine⟨?_,by simp[rem,hc,h2]⟩
   simp only[get,List.find?_cons,decide_eq_false hc] at h1 ⊢;exact h1
theorem F6 {no:Int} {l:List Th}:(rem no l).length=if(get no l).isSome then l.length - 1 else l.length:=by
 cases h:ix no l with
 |none=>obtain⟨h1,h2⟩:=yN h;rw[h1,h2];rfl
 |some i=>
  obtain⟨x,h1,h2,h3,h4⟩:=vD h
  rw[h2,h3];simp;omega
structure iT where
 S:Nat→List Th
 al:Int
 aw:Bool
 bg:Bool
 gl:Int
 gc:pV
 Fy:Bool
def iT.new:iT:=⟨fun _=>[],0,false,false,0,pV.zero,false⟩
def iT.tail (c:iT):List Value:=[I c.al,.bool c.aw,.bool c.bg,I c.gl]++c.gc.enc++[.bool c.Fy]
variable (n:Nat) (ways:Nat) (lines:Int) (core:Int)
def setOf (l:Int):Nat:=(l % (n:Int)).toNat
def iT.aB6 (c:iT) (l:Int):Option pV:=if l<0 then none else get l (c.S (setOf n l))
def iT.may (c:iT) (l ow:Int) (w:Bool):Bool:=match c.aB6 n l with
 |some x=>decide (x.w=ow)&&pX x.st w
 |none=>false
def iT.set (c:iT) (l:Int) (s:List Th):iT:={c with S:=bT c.S (setOf n l) s}
def iT.drop (c:iT) (l:Int):iT:=c.set n l (rem l (c.S (setOf n l)))
def iT.put (c:iT) (l:Int) (x:pV):iT:=c.set n l (if(rem l (c.S (setOf n l))).length≥ways then rem l (c.S (setOf n l)) else rem l (c.S (setOf n l))++[(l,x)])
end Go.Ct
end
section
namespace Go.Ct
open Go Go.Ab Go.Hm
variable {n ways:Nat} {S:Nat→List Th} {s:iT} {C:bQ} {core:Int}
def lB (x to:Int):Int:=if to=1 then Pb x else 0
def bV (n:Nat) (S:Nat→List Th) (no:Int):pV×Int:=if no<0 then(pV.zero,10) else match get no (S (setOf n no)) with|some x=>(x,0)|none=>(pV.zero,12)
def Gp (n ways:Nat) (S:Nat→List Th) (no:Int):Option Th:=match get no (S (setOf n no)) with
 |some _=>none
 |none=>if(S (setOf n no)).length<ways then none else(S (setOf n no))[0]?
def kQ (n:Nat) (S:Nat→List Th) (no:Int):Nat→List Th:=if no<0 then S else bT S (setOf n no) (rem no (S (setOf n no)))
def mC (n ways:Nat) (S:Nat→List Th) (no:Int) (x:pV):(Nat→List Th)×Int:=
 if(rem no (S (setOf n no))).length≥ways then(bT S (setOf n no) (rem no (S (setOf n no))),11) else(bT S (setOf n no) (rem no (S (setOf n no))++[(no,x)]),0)
theorem aEt {no:Int} {l:List Th} (h:l.length≤4):(rem no l).length≤4:=by rw[F6];split<;>omega
theorem mi {n:Nat} {S:Nat→List Th} {no:Int} (hb:∀i,(S i).length≤4):∀i,(kQ n S no i).length≤4:=by
 intro i
 unfold kQ
 split
 ·exact hb i
 ·unfold bT
  split
  ·exact aEt (hb _)
  ·exact hb i
def D6 (n ways:Nat) (S:Nat→List Th) (no:Int):Nat→List Th:=if(bV n S no).2=0 then(mC n ways (kQ n S no) no (bV n S no).1).1 else kQ n S no
def ku (n ways:Nat) (S:Nat→List Th) (no:Int):Int:=if(bV n S no).2=0 then(mC n ways (kQ n S no) no (bV n S no).1).2 else(bV n S no).2
def vV (C:bQ) (l:Int):Bool:=decide (0≤l∧l<C.lines)
def mO (n:Nat) (S:Nat→List Th) (l ow:Int) (w:Bool):Bool:=decide ((bV n S l).2=0)&&decide ((bV n S l).1.w=ow)&&pX (bV n S l).1.st w
def pM (C:bQ) (S:Nat→List Th) (l at' ow:Int) (w:Bool):Int:=
 if vV C l=false then 10 else if at'<0 then 10 else if at'≥2 then 10 else if mO C.bH.toNat S l ow w=false then 16 else 0
def rT (C:bQ) (s:iT) (l at' ow:Int):iT:=if pM C s.S l at' ow false=0 then {s with S:=D6 C.bH.toNat C.ways.toNat s.S l} else s
def aEa (d:Ln) (at' v:Int):Ln:=if at'=0 then(v,d.2) else(d.1,v)
def nS (n:Nat) (S:Nat→List Th) (l at' v:Int):pV:=⟨4,(bV n S l).1.w,aEa (bV n S l).1.d at' v⟩
def lK (C:bQ) (s:iT) (l at' ow v:Int):iT:=if pM C s.S l at' ow true=0 then {s with S:=(mC C.bH.toNat C.ways.toNat s.S l (nS C.bH.toNat s.S l at' v)).1} else s
def Bd (s:iT):Prop:=∀i,(s.S i).length≤4
theorem kD (hC:C.Ok):0<C.bH.toNat∧C.bH.toNat≤8∧0<C.ways.toNat∧C.ways.toNat≤4:=by unfold bQ.Ok at hC;omega
theorem I7 {S:Nat→List Th} {l at' ow:Int} {w:Bool} (h:pM C S l at' ow w=0):(0≤l∧l<C.lines)∧(at'=0∨at'=1)∧(bV C.bH.toNat S l).2=0∧pX (bV C.bH.toNat S l).1.st w=true:=by
 unfold pM at h
 split at h
 ·omega
 ·split at h
  ·omega
  ·split at h
   ·omega
   ·split at h
    ·omega
    ·rename_i h1 h2 h3 h4
     have h1:vV C l=true:=by simpa using h1
     have h4:mO C.bH.toNat S l ow w=true:=by simpa using h4
     unfold vV at h1
     unfold mO at h4
     grind
def kO (core:Int) (s:iT) (l w:Int) (wr:Bool) (ns:List aQ):iT×List aQ×Int:=
 ({s with al:=l,aw:=wr,bg:=true},ns++[⟨if wr then 2 else 1,core,l,w,0,0,0,false,0⟩],0)
def zV (C:bQ) (core:Int) (s:iT) (l w:Int) (wr:Bool):iT×List aQ×Int:=
 match Gp C.bH.toNat C.ways.toNat s.S l with
 |none=>kO core s l w wr []
 |some v=>
  if s.Fy then(s,[],11) else
  if(bV C.bH.toNat s.S v.1).2≠0 then({s with S:=kQ C.bH.toNat s.S v.1},[],(bV C.bH.toNat s.S v.1).2) else
  kO core {s with S:=kQ C.bH.toNat s.S v.1,gl:=v.1,gc:=(bV C.bH.toNat s.S v.1).1,Fy:=true} l w wr
   [⟨3,core,v.1,(bV C.bH.toNat s.S v.1).1.w,0,(bV C.bH.toNat s.S v.1).1.d.1,(bV C.bH.toNat s.S v.1).1.d.2,kS (bV C.bH.toNat s.S v.1).1.st,0⟩]
def want (C:bQ) (core:Int) (s:iT) (l w:Int) (wr:Bool):iT×List aQ×Int:=
 if vV C l=false then(s,[],10) else if s.bg then(s,[],17) else if s.Fy=true∧s.gl=l then(s,[],16) else
 if(bV C.bH.toNat s.S l).2=0∧pX (bV C.bH.toNat s.S l).1.st wr=true then(s,[],13) else zV C core s l w wr
abbrev Tk:=iT×List aQ×Int
def lN (C:bQ) (s:iT) (n:aQ):pV:=⟨n.state,n.world,if(bV C.bH.toNat s.S n.line).2=0 then(bV C.bH.toNat s.S n.line).1.d else(n.d0,n.d1)⟩
def uL (C:bQ) (core:Int) (s:iT) (n:aQ):Tk:=
 if s.bg=false then(s,[],16) else if s.al≠n.line then(s,[],16) else
 if(mC C.bH.toNat C.ways.toNat s.S n.line (lN C s n)).2≠0 then({s with S:=(mC C.bH.toNat C.ways.toNat s.S n.line (lN C s n)).1},[],(mC C.bH.toNat C.ways.toNat s.S n.line (lN C s n)).2) else
 ({s with S:=(mC C.bH.toNat C.ways.toNat s.S n.line (lN C s n)).1,al:=0,aw:=false,bg:=false},[⟨4,core,n.line,0,0,0,0,false,0⟩],0)
def E7 (s:iT) (n:aQ):Tk:=if s.bg=false then(s,[],16) else if s.al≠n.line then(s,[],16) else({s with al:=0,aw:=false,bg:=false},[],0)
def rS (s:iT) (n:aQ):Tk:=if s.Fy=false then(s,[],12) else if s.gl≠n.line then(s,[],12) else({s with gl:=0,gc:=pV.zero,Fy:=false},[],0)
def lS (core:Int) (n:aQ) (x:pV):aQ:=if Ef x.st then⟨5,core,n.line,0,lB x.st n.state,x.d.1,x.d.2,kS x.st,0⟩ else⟨5,core,n.line,0,lB x.st n.state,0,0,false,0⟩
def nJ (C:bQ) (core:Int) (s:iT) (n:aQ):Tk:=
 if n.state≠1∧n.state≠0 then(s,[],10) else
 if(bV C.bH.toNat s.S n.line).2=0 then
  ({s with S:=if lB (bV C.bH.toNat s.S n.line).1.st n.state=0 then kQ C.bH.toNat s.S n.line else(mC C.bH.toNat C.ways.toNat s.S n.line {(bV C.bH.toNat s.S n.line).1 with st:=lB (bV C.bH.toNat s.S n.line).1.st n.state}).1},[lS core n (bV C.bH.toNat s.S n.line).1],0)
 else if s.Fy=false then(s,[⟨5,core,n.line,0,0,0,0,false,0⟩],0) else if s.gl≠n.line then(s,[⟨5,core,n.line,0,0,0,0,false,0⟩],0) else
  ({s with gc:={s.gc with st:=lB s.gc.st n.state}},[lS core n s.gc],0)
def hJ (C:bQ) (core:Int) (s:iT) (n:aQ):Tk:=
 if n.kind=8 then(if vV C n.line=false then(s,[],10) else uL C core s n)
 else if n.kind=9 then(if vV C n.line=false then(s,[],10) else E7 s n)
 else if n.kind=10 then(if vV C n.line=false then(s,[],10) else rS s n)
 else if n.kind=11 then(if vV C n.line=false then(s,[],10) else nJ C core s n)
 else(s,[],15)
def Kc (core:Int) (n:aQ):aQ:=⟨5,core,n.line,0,0,0,0,false,0⟩
structure Sts (n:Nat) (s:iT):Prop where
 aB6:∀l,(bV n s.S l).2=0→0≤(bV n s.S l).1.st∧(bV n s.S l).1.st<5
 back:s.Fy=true→0≤s.gc.st∧s.gc.st<5
theorem yA {no:Int} {l:List Th}:(rem no l).Sublist l:=by
 induction l with
 |nil=>exact List.Sublist.refl _
 |cons t l ih=>
  simp only[rem]
  grind
theorem M7 {no:Int} {l:List Th} (h:(l.map (·.1)).Nodup):no∉(rem no l).map (·.1):=by
 induction l with
 |nil=>simp[rem]
 |cons t l ih=>
  simp only[List.map_cons,List.nodup_cons] at h
  simp only[rem]
  grind
theorem get_mem {no:Int} {l:List Th} {x:pV} (h:get no l=some x):(no,x)∈l:=by
 unfold Go.Ct.get at h
 cases hf:l.find? (fun t=>decide (t.1=no)) with
 |none=>rw[hf] at h;cases h
 |some t=>
  grind
theorem tg {no:Int} {l:List Th} (h:no∉l.map (·.1)):get no l=none:=by
 unfold Go.Ct.get
 grind
theorem nh {no:Int} {l:List Th} {x:pV} (h:no∉l.map (·.1)):get no (l++[(no,x)])=some x:=by
 have h1:=tg h
 unfold Go.Ct.get at h1 ⊢
 grind
structure nD (ways:Nat) (l:List Th):Prop where
 len:l.length≤ways
 st:∀t∈l,1≤t.2.st∧t.2.st≤4
 nd:(l.map (·.1)).Nodup
theorem nD.rem {ways:Nat} {l:List Th} {no:Int} (h:nD ways l):nD ways (Go.Ct.rem no l):=
 ⟨Nat.le_trans yA.length_le h.len,fun t ht=>h.st t (yA.mem ht),(yA.map _).nodup h.nd⟩
theorem nD.app {ways:Nat} {l:List Th} {no:Int} {x:pV} (h:nD ways l) (hl:l.length<ways) (hx:1≤x.st∧x.st≤4) (hn:no∉l.map (·.1)):nD ways (l++[(no,x)]):=
 ⟨by simp;omega,fun t ht=>by
  rcases List.mem_append.1 ht with h1|h1
  ·exact h.st t h1
  grind,by
  rw[List.map_append,List.nodup_append]
  refine⟨h.nd,by simp,?_⟩
  grind⟩
def Pl (n:Nat) (S:Nat→List Th):Prop:=∀i t,t∈S i→0≤t.1∧setOf n t.1=i
theorem Bm {n:Nat} {S:Nat→List Th} {no:Int} (h:Pl n S):Pl n (kQ n S no):=by
 intro i t ht
 unfold kQ at ht
 split at ht
 ·exact h i t ht
 ·unfold bT at ht
  split at ht
  ·rename_i e;subst e;exact h _ t (yA.mem ht)
  ·exact h i t ht
theorem Ir {n ways:Nat} {S:Nat→List Th} {no:Int} {x:pV} (h0:0≤no) (h:Pl n S):Pl n (mC n ways S no x).1:=by
 intro i t ht
 unfold mC at ht
 split at ht
 ·unfold bT at ht
  dsimp only at ht
  split at ht
  ·rename_i e;subst e;exact h _ t (yA.mem ht)
  ·exact h i t ht
 ·unfold bT at ht
  dsimp only at ht
  split at ht
  ·rename_i e;subst e
   rcases List.mem_append.1 ht with h1|h1
   ·exact h _ t (yA.mem h1)
   grind
  ·exact h i t ht
structure Good (n ways:Nat) (s:iT):Prop where
 bH:∀i,nD ways (s.S i)
 back:s.Fy=true→0≤s.gc.st∧s.gc.st≤4
 pl:Pl n s.S
theorem qA {no:Int} (h:∀i,nD ways (S i)):∀i,nD ways (kQ n S no i):=by
 intro i
 unfold kQ
 split
 ·exact h i
 ·unfold bT
  split
  ·exact(h _).rem
  ·exact h i
theorem xW {no:Int} {x:pV} (hx:1≤x.st∧x.st≤4) (h:∀i,nD ways (S i)):∀i,nD ways ((mC n ways S no x).1 i):=by
 intro i
 unfold mC
 split
 ·unfold bT
  dsimp only
  split
  ·exact(h _).rem
  ·exact h i
 ·rename_i hl
  unfold bT
  dsimp only
  split
  ·exact((h (setOf n no)).rem).app (by omega) hx (M7 (h _).nd)
  ·exact h i
theorem Gc {l:Int} (h:∀i,nD ways (S i)) (hp:(bV n S l).2=0):1≤(bV n S l).1.st∧(bV n S l).1.st≤4:=by
 unfold bV at hp ⊢
 split at hp
 ·cases hp
 ·rename_i h0
  rw[if_neg h0]
  cases hg:get l (S (setOf n l)) with
  |none=>grind
  |some x=>exact(h _).st _ (get_mem hg)
theorem nq {no:Int} (h:∀i,nD ways (S i)):∀i,nD ways (D6 n ways S no i):=by
 intro i
 unfold D6
 split
 ·rename_i hp
  exact xW (Gc h hp) (qA h) i
 ·exact qA h i
theorem il {no:Int} (hp:(bV n S no).2=0):0≤no:=by
 unfold bV at hp
 grind
theorem aA4 {no:Int} (h:Pl n S):Pl n (D6 n ways S no):=by
 unfold D6
 split
 ·rename_i hp
  exact Ir (il hp) (Bm h)
 ·exact Bm h
theorem Good.bd (h:Good n ways s) (hw:ways≤4):Bd s:=fun i=>Nat.le_trans (h.bH i).len hw
theorem Good.sts (h:Good n ways s):Sts n s:=⟨fun l hp=>by have:=Gc (n:=n) h.bH hp;omega,fun hg=>by have:=h.back hg;omega⟩
theorem jh:Good n ways iT.new:=⟨fun _=>⟨Nat.zero_le _,(fun _ h=>by cases h),List.nodup_nil⟩,(fun h=>by cases h),fun _ _ h=>by cases h⟩
abbrev lZ (C:bQ) (s:iT):Prop:=Good C.bH.toNat C.ways.toNat s
theorem bz {l w:Int} {wr:Bool} (h:lZ C s):lZ C (want C core s l w wr).1:=by
 unfold want
 split
 ·exact h
 ·split
  ·exact h
  ·split
   ·exact h
   ·split
    ·exact h
    ·unfold zV
     split
     ·exact⟨h.bH,h.back,h.pl⟩
     ·split
      ·exact h
      ·split
       ·exact⟨qA h.bH,h.back,Bm h.pl⟩
       ·rename_i v _ _ hp
        have hp:(bV C.bH.toNat s.S v.1).2=0:=by simpa using hp
        exact⟨qA h.bH,fun _=>(by have:=Gc (n:=C.bH.toNat) h.bH hp;exact⟨by show 0≤(bV C.bH.toNat s.S v.1).1.st;omega,this.2⟩),Bm h.pl⟩
theorem Q0 {x to:Int} (hx:0≤x∧x≤4):0≤lB x to∧lB x to≤4:=by
 unfold lB Pb
 grind
theorem ff {nt:aQ} (hv:nt.kind=8→1≤nt.state∧nt.state≤4) (h:lZ C s):lZ C (hJ C core s nt).1:=by
 unfold hJ
 split
 ·rename_i h8
  split
  ·exact h
  ·rename_i hh
   have h0:0≤nt.line:=(of_decide_eq_true (by simpa using hh:vV C nt.line=true)).1
   unfold uL
   split
   ·exact h
   ·split
    ·exact h
    ·split
     ·exact⟨xW (hv h8) h.bH,h.back,Ir h0 h.pl⟩
     ·exact⟨xW (hv h8) h.bH,h.back,Ir h0 h.pl⟩
 ·split
  ·split
   ·exact h
   ·unfold E7
    split
    ·exact h
    ·split
     ·exact h
     ·exact⟨h.bH,h.back,h.pl⟩
  ·split
   ·split
    ·exact h
    ·unfold rS
     split
     ·exact h
     ·split
      ·exact h
      ·exact⟨h.bH,(fun e=>by cases e),h.pl⟩
   ·split
    ·split
     ·exact h
     ·unfold nJ
      split
      ·exact h
      ·split
       ·rename_i hp
        have h0:=il hp
        have hst:=Gc (n:=C.bH.toNat) h.bH hp
        refine⟨?_,h.back,?_⟩
        rotate_left
        ·dsimp only
         split
         ·exact Bm h.pl
         ·exact Ir h0 h.pl
        dsimp only
        split
        ·exact qA h.bH
        ·rename_i hne
         exact xW (by have:=Q0 (x:=(bV C.bH.toNat s.S nt.line).1.st) (to:=nt.state) (by omega);dsimp only;omega) h.bH
       ·split
        ·exact h
        ·split
         ·exact h
         ·rename_i hg _
          exact⟨h.bH,(fun _=>Q0 (h.back (by simpa using hg))),h.pl⟩
    ·exact h
theorem Lt {l a ow:Int} (h:lZ C s):lZ C (rT C s l a ow):=by
 unfold rT
 split
 ·exact⟨nq h.bH,h.back,aA4 h.pl⟩
 ·exact h
theorem Vy {l a ow v:Int} (h:lZ C s):lZ C (lK C s l a ow v):=by
 unfold lK
 split
 ·rename_i hr
  exact⟨xW (by simp[nS]) h.bH,h.back,Ir (I7 hr).1.1 h.pl⟩
 ·exact h
theorem j4 {l w:Int} {wr:Bool}:(want C core s l w wr).2.1.length≤2:=by
 unfold want
 split
 ·simp
 ·split
  ·simp
  ·split
   ·simp
   ·split
    ·simp
    ·unfold zV
     split
     ·simp[kO]
     ·split
      ·simp
      ·split
       ·simp
       ·simp[kO]
theorem nj {nt:aQ}:(hJ C core s nt).2.1.length≤1:=by
 unfold hJ uL E7 rS nJ
 grind
end Go.Ct
end
section
namespace Go.Nt
open Go Go.Ab Go.Hm
def Ve:List (List UInt8×Int×List Int):=[
 ([],0,[0,0,0,0,0,0,0]),
  ([103,101,116,115],0,[1,2,3,0,0,0,0]),
  ([103,101,116,109],0,[1,2,3,0,0,0,0]),
  ([112,117,116],0,[1,2,4,8,9,10,0]),
  ([100,111,110,101],1,[1,2,0,0,0,0,0]),
  ([114,101,112,108,121],1,[1,2,5,8,9,10,11]),
  ([119,97,108,107],0,[1,12,0,0,0,0,0]),
  ([100,114,111,112,112,101,100],1,[1,13,0,0,0,0,0]),
  ([103,114,97,110,116],2,[1,2,4,6,8,9,0]),
  ([110,97,99,107],2,[1,2,11,0,0,0,0]),
  ([112,117,116,97,99,107],2,[1,2,0,0,0,0,0]),
  ([112,114,111,98,101],3,[1,2,7,0,0,0,0]),
  ([119,97,108,107,101,100],2,[1,8,9,12,0,0,0]),
  ([100,114,111,112],3,[1,13,0,0,0,0,0])]
def se (r:List UInt8×Int×List Int):List Value:= .string ⟨r.1.toArray⟩::I r.2.1::r.2.2.map I
def tZ:List Value:=Ve.flatMap se
def Z4 (k:Nat):List Int:=(Ve.getD k ([],0,[])).2.2
def K7 (k:Nat):Int:=(Ve.getD k ([],0,[])).2.1
def ws (arr:List Int):Nat→Nat→List Int
 |0,_=>[]
 |f+1,i=>if arr.getD i 0=0 then [] else arr.getD i 0::ws arr f (i+1)
def Bs (k:Nat):List Int:=ws (Z4 k) 7 0
theorem k14 {k:Nat} (h:k<14):k=0∨k=1∨k=2∨k=3∨k=4∨k=5∨k=6∨k=7∨k=8∨k=9∨k=10∨k=11∨k=12∨k=13:=by omega
theorem Wa {k:Nat} (h:k<14):tZ[k*9+1]?=some (I (K7 k)):=by
 rcases k14 h with rfl|rfl|rfl|rfl|rfl|rfl|rfl|rfl|rfl|rfl|rfl|rfl|rfl|rfl<;>rfl
theorem eh {k:Nat} (h:k<14):(tZ.drop (k*9+2)).take 7=(Z4 k).map I:=by
 rcases k14 h with rfl|rfl|rfl|rfl|rfl|rfl|rfl|rfl|rfl|rfl|rfl|rfl|rfl|rfl<;>rfl
theorem Yq {k:Nat} (h:k<14):(Z4 k).length=7:=by
 rcases k14 h with rfl|rfl|rfl|rfl|rfl|rfl|rfl|rfl|rfl|rfl|rfl|rfl|rfl|rfl<;>rfl
theorem ep:tZ.length=126:=by rfl
theorem wk {k:Nat} (h:k<14):∀f∈Bs k,1≤f∧f≤13:=by
 rcases k14 h with rfl|rfl|rfl|rfl|rfl|rfl|rfl|rfl|rfl|rfl|rfl|rfl|rfl|rfl<;>decide
theorem f13 {f:Int} (h:1≤f∧f≤13):f=1∨f=2∨f=3∨f=4∨f=5∨f=6∨f=7∨f=8∨f=9∨f=10∨f=11∨f=12∨f=13:=by omega
def Nc (k:Int):Prop:=1≤k∧k<14
instance (k:Int):Decidable (Nc k):=by unfold Nc;infer_instance
def ga (n:aQ) (f:Int):Int:=
 if f=1 then n.core else if f=2 then n.line else if f=3∨f=4 then n.world else if f=5∨f=6∨f=7 then n.state else if f=8 then n.d0 else if f=9 then n.d1
 else if f=10 then(if n.Cw=true then 1 else 0) else n.no
def zl (n:aQ) (f v:Int):aQ:=
 if f=1 then {n with core:=v} else if f=2 then {n with line:=v} else if f=3∨f=4 then {n with world:=v} else if f=5∨f=6∨f=7 then {n with state:=v} else if f=8 then {n with d0:=v} else if f=9 then {n with d1:=v}
 else if f=10 then {n with Cw:=decide (v≠0)} else {n with no:=v}
def qx (C:bQ) (f v:Int):Prop:=
 if f=1 then 0≤v∧v<C.aF else if f=2 then 0≤v∧v<C.lines else if f=3 then 0≤v∧v≤3 else if f=4 then 0≤v∧v≤4 else if f=5 then 0≤v∧v≤4
 else if f=6 then v=1∨v=2∨v=4 else if f=7 then v=0∨v=1 else if f=10∨f=11 then v=0∨v=1 else if f=12 then 0≤v∧v<20 else if f=13 then 0≤v∧v<C.bP else True
instance (C:bQ) (f v:Int):Decidable (qx C f v):=by unfold qx;infer_instance
def oV (C:bQ) (n:aQ):List Int→aQ→Bool×aQ
 |[],a=>(true,a)
 |f::fs,a=>if qx C f (ga n f) then oV C n fs (zl a f (ga n f)) else(false,a)
def Ck (k:Int):aQ:={aQ.zero with kind:=k}
def wW (C:bQ) (n:aQ):Int:=
 if Nc n.kind then(if C.Ok then(if(oV C n (Bs n.kind.toNat) (Ck n.kind)).1=true∧(oV C n (Bs n.kind.toNat) (Ck n.kind)).2=n then 0 else 10) else 10) else 15
end Go.Nt
end
section
namespace Go.Mc
open Go Go.Ab Go.Hm Go.At Go.Is Go.Ct Go.Nt
structure jP where
 owner:Int
 locked:Bool
 deriving DecidableEq
def jP.enc (x:jP):List Value:=[I x.owner,.bool x.locked]
def jK:jP:=⟨0,false⟩
def nM (n g:Int):Int:=(n+3)/4+g
def fy (x:jP):Int:=if x.locked then x.owner+8 else x.owner
def W6 (es:List jP) (j:Nat):Bool:=((es.drop (4*j)).take 4).all fun x=>decide (x=⟨(es.getD (4*j) jK).owner,false⟩)
def R9 (es:List jP) (j:Nat):Int:=if W6 es j then 4*(es.getD (4*j) jK).owner else 4*nM es.length (4*j:Nat)+1
def iK (es:List jP):List Int:=(List.range ((es.length+3)/4)).map (R9 es)++es.map fy
def tI (es:List jP) (at':Int):Int×Int:=if 0≤at'∧at'<(iK es).length then((iK es).getD at'.toNat 0,0) else(0,10)
def G4 (o:Int):Bool:=decide (0≤o∧o≤4)
def G9 (n g at' word:Int):Int×jP×Bool×Int:=
 if ¬((1≤n∧n≤16)∧(0≤g∧g<n)) then(0,jK,false,10)
 else if at'=g/4 then
  if word=4*nM n (g/4*4)+1 then(nM n g,jK,false,0)
  else if word % 4=0∧G4 (word/4)=true then(0,⟨word/4,false⟩,true,0)
  else(0,jK,false,14)
 else if at'=nM n g then
  if G4 word=true then(0,⟨word,false⟩,true,0)
  else if 8≤word∧G4 (word - 8)=true then(0,⟨word - 8,true⟩,true,0)
  else(0,jK,false,14)
 else(0,jK,false,10)
structure lQ where
 vH:Bool
 cB:Int
 at':Int
 sB:Bool
 known:List (Int×Int)
def Ft:lQ:=⟨false,0,0,false,[]⟩
def cT (x:Int×Int):List Value:=[I x.1,I x.2]
def mM (l:List (Int×Int)) (g:Int):Option Int:=(l.find? fun x=>decide (x.1=g)).map (·.2)
def lQ.ask (c:lQ) (C:bQ) (world g:Int):Int×Int:=
 if(0≤g∧g<C.bP)∧(0≤world∧world≤3) then
  match mM c.known g with
  |none=>(3,0)
  |some o=>if Fl world o then(1,0) else(2,0)
 else(0,10)
def lQ.start (c:lQ) (g:Int):lQ:={c with vH:=true,cB:=g,at':=g/4,sB:=false}
def lQ.begin (c:lQ) (C:bQ) (g:Int):lQ×Int×Int:=
 if ¬(0≤g∧g<C.bP) then(c,0,10)
 else if(mM c.known g).isSome then(c,0,13)
 else if c.vH then(c,0,16)
 else(c.start g,g/4,0)
def lQ.Hh (c:lQ) (C:bQ) (f:Int×Int):lQ:={c with known:=(if(c.known.length:Int)≥C.entries then c.known.drop 1 else c.known)++[f]}
def lQ.goto (c:lQ) (a:Int):lQ:={c with at':=a}
def lQ.fresh (c:lQ):lQ:={c with sB:=false,at':=c.cB/4}
def lQ.done (c:lQ):lQ:={c with vH:=false,cB:=0,at':=0,sB:=false}
def lQ.walked (c:lQ) (C:bQ) (at' word:Int):lQ×Int×Bool×Int:=
 if c.vH=false then(c,0,false,16)
 else if at'≠c.at' then(c,0,false,1)
 else if c.sB then(c.fresh,c.cB/4,false,0)
 else
  let r:=G9 C.bP c.cB at' word
  if r.2.2.2≠0 then(c,0,false,r.2.2.2)
  else if r.2.2.1=true∧r.2.1.locked=true then(c.goto (c.cB/4),c.cB/4,false,0)
  else if r.2.2.1=false then(c.goto r.1,r.1,false,0)
  else((c.Hh C (c.cB,r.2.1.owner)).done,0,true,0)
def lQ.drop (c:lQ) (C:bQ) (g:Int):lQ×Int:=
 if g< -1∨g≥C.bP then(c,10)
 else({c with known:=c.known.filter (fun x=> !decide (g= -1∨x.1=g)),sB:=c.sB||(c.vH&&decide (g= -1∨c.cB=g))},0)
structure iG where
 core:Int
 world:Int
 call:Int
 cB:Int
 to:Int
 then':Int
 zL:Bool
 phase:Int
 waits:Nat→Bool
def iG.enc (r:iG):List Value:=[I r.core,I r.world,I r.call,I r.cB,I r.to,I r.then',.bool r.zL,I r.phase,.bool (r.waits 0),.bool (r.waits 1),.bool (r.waits 2),.bool (r.waits 3)]
structure Mon where
 fV:List jP
 runs:Nat→Option iG
def Mon.du (m:Mon) (g:Nat) (x:jP):Mon:={m with fV:=m.fV.set g x}
def Mon.dN (m:Mon) (g:Nat) (x:Option iG):Mon:={m with runs:=bT m.runs g x}
def Mon.has (m:Mon) (g:Int):Prop:=0≤g∧g<m.fV.length
instance (m:Mon) (g:Int):Decidable (m.has g):=by unfold Mon.has;infer_instance
def Mon.zA (m:Mon) (g:Int):jP:=m.fV.getD g.toNat jK
def Mon.run (m:Mon) (g:Int):Option iG:=if 0≤g then m.runs g.toNat else none
def Mon.phase (m:Mon) (g:Int):Int:=match m.run g with
 |some r=>r.phase
 |none=>0
def Mon.running (m:Mon):List Nat:=(List.range 16).filter fun g=>(m.runs g).isSome
def Mon.jQ (m:Mon) (core:Int) (g:Nat):Bool:=match m.runs g with
 |some r=>decide (r.core=core)
 |none=>false
def Mon.calls (m:Mon) (core:Int):Bool:=m.running.any (m.jQ core)
structure Ask where
 core:Int
 world:Int
 call:Int
 cB:Int
 to:Int
def Ask.enc (a:Ask):List Value:=[I a.core,I a.world,I a.call,I a.cB,I a.to]
def Ask.run (a:Ask) (aF:Int) (j:Int×Bool×Int):iG:=⟨a.core,a.world,a.call,a.cB,a.to,j.1,j.2.1,1,fun i=>decide ((i:Int)<aF)⟩
def Mon.call (m:Mon) (aF:Int) (a:Ask):Mon×Bool×Int:=
 if ¬(0≤a.core∧a.core<aF) then(m,false,1)
 else if ¬m.has a.cB then(m,false,10)
 else if m.phase a.cB≠0 then(m,false,17)
 else if m.calls a.core then(m,false,13)
 else
  let j:=jG a.call a.world (m.zA a.cB).owner a.to
  if j.2.2≠0 then(m,false,j.2.2)
  else((m.du a.cB.toNat ⟨(m.zA a.cB).owner,true⟩).dN a.cB.toNat (some (a.run aF j)),true,0)
def iG.none (r:iG):Bool:= !(r.waits 0||r.waits 1||r.waits 2||r.waits 3)
def iG.heard (r:iG) (core:Int):iG:={r with waits:=vA r.waits core false}
def iG.kP (r:iG):iG:={r with phase:=if r.none then 2 else r.phase}
def Mon.dropped (m:Mon) (aF g core:Int):Mon×Bool×Int:=
 if ¬m.has g then(m,false,10)
 else match m.run g with
  |none=>(m,false,16)
  |some r=>
   if r.phase≠1 then(m,false,16)
   else if ¬(0≤core∧core<aF)∨r.waits core.toNat=false then(m,false,12)
   else(m.dN g.toNat (some (r.heard core).kP),(r.heard core).none,0)
def Mon.over (m:Mon) (g:Int):Mon×Option iG×Int:=
 if ¬m.has g then(m,none,10)
 else match m.run g with
  |none=>(m,none,16)
  |some r=>
   if r.phase≠2 then(m,none,16)
   else((m.du r.cB.toNat ⟨r.then',false⟩).dN g.toNat none,some r,0)
def aY.next? (s:aY):Option Ins:=if s.over then none else some (vU s.prog s.at')
def aY.ev (s:aY) (i:Nat) (x:Ins) (word value code:Int):Ev:=⟨i,s.at',x.op,s.world,word,value,code⟩
def aY.step (s:aY) (a:Int):aY:=s.nA a
def aY.mU (s:aY) (i:Nat):Option (aY×Ev):=
 match aY.next? s with
 |none=>none
 |some x=>
  if x.op=1 then some ((s.dN x.a x.b).nA (s.at'+1),aY.ev s i x 0 x.b 0)
  else if x.op=2 then some ((s.dN x.a (wr (s.cX x.b.toNat+s.cX x.c.toNat))).nA (s.at'+1),aY.ev s i x 0 (wr (s.cX x.b.toNat+s.cX x.c.toNat)) 0)
  else if x.op=6 then some (s.nA (s.at'+1),aY.ev s i x 0 0 0)
  else if x.op=7 then(if s.world=0 then some ((s.kh x.a).nA (s.at'+1),aY.ev s i x 0 x.a 0) else some (s.nA (s.at'+1),aY.ev s i x 0 x.a 18))
  else if x.op=9 then some (s.nA x.a,aY.ev s i x 0 x.a 0)
  else if x.op=10 then some (s.nA (if s.cX x.a.toNat=0 then x.b else s.at'+1),aY.ev s i x 0 (s.cX x.a.toNat) 0)
  else none
def Hu (op:Int):Bool:=decide (op=3∨op=4∨op=5)
structure Acc where
 word:Int
 write:Bool
 read:Bool
 value:Int
def aY.Gi (s:aY):Option Acc:=
 match aY.next? s with
 |none=>none
 |some x=>if Hu x.op then some ⟨s.cX x.b.toNat,decide (x.op≠3),decide (x.op≠4),if x.op=3 then 0 else s.cX x.a.toNat⟩ else none
def aY.Vg (s:aY) (i:Nat):Option Ask:=
 match aY.next? s with
 |none=>none
 |some x=>if x.op=8 then some ⟨i,s.world,x.a,s.cX x.b.toNat,s.cX x.c.toNat⟩ else none
def aY.cC (s:aY) (i:Nat) (value code:Int):aY×Ev×Int:=
 match aY.next? s with
 |none=>(s,D5,16)
 |some x=>
  if x.op=8 then((s.dN x.b code).nA (s.at'+1),aY.ev s i x (s.cX x.b.toNat) (s.cX x.c.toNat) code,0)
  else if Hu x.op then
   if code≠0∧code≠19 then(s,D5,1)
   else if code=19 then(s.nA (s.at'+1),aY.ev s i x (s.cX x.b.toNat) 0 19,0)
   else if x.op=4 then(s.nA (s.at'+1),aY.ev s i x (s.cX x.b.toNat) (s.cX x.a.toNat) 0,0)
   else((s.dN x.a value).nA (s.at'+1),aY.ev s i x (s.cX x.b.toNat) value 0,0)
  else(s,D5,16)
abbrev gM:=Nat→Nat→List aQ
def fL (n:aQ):Nat:=(K7 n.kind.toNat).toNat
def gM.set (F:gM) (c w:Nat) (l:List aQ):gM:=fun c' w'=>if c'=c∧w'=w then l else F c' w'
def gM.put (F:gM) (n:aQ):gM:=F.set n.core.toNat (fL n) (F n.core.toNat (fL n)++[n])
def gM.Fq (d:Int):gM→List aQ→Option gM
 |F,[]=>some F
 |F,n::l=>if((F n.core.toNat (fL n)).length:Int)<d then gM.Fq d (F.put n) l else none
def cR (C:bQ):List aQ→Int
 |[]=>0
 |n::l=>if wW C n≠0 then wW C n else cR C l
def gM.send (C:bQ) (F:gM) (l:List aQ):gM×Int:=
 if cR C l≠0 then(F,cR C l) else match gM.Fq C.depth F l with
  |some F'=>(F',0)
  |none=>(F,11)
def gM.take (C:bQ) (F:gM) (core way which:Int):gM×aQ×Int:=
 if ¬((0≤core∧core<C.aF)∧(0≤way∧way<4)) then(F,aQ.zero,10)
 else
  let l:=F core.toNat way.toNat
  if l=[] then(F,aQ.zero,12)
  else
   let i:=(which % (l.length:Int)).toNat
   (F.set core.toNat way.toNat (l.eraseIdx i),l.getD i aQ.zero,0)
structure cY where
 aH:Nat→aY
 dK:Nat→iT
 cR:Nat→lQ
 home:jO
 dQ:Mon
 mI:gM
 log:List Ev
abbrev cY.vT (M:cY) (i:Nat) (s:aY):cY:={M with aH:=bT M.aH i s}
abbrev cY.sE (M:cY) (i:Nat) (s:iT):cY:={M with dK:=bT M.dK i s}
abbrev cY.Bh (M:cY) (i:Nat) (s:lQ):cY:={M with cR:=bT M.cR i s}
abbrev cY.qJ (M:cY) (h:jO):cY:={M with home:=h}
abbrev cY.mG (M:cY) (m:Mon):cY:={M with dQ:=m}
abbrev cY.dH (M:cY) (l:gM):cY:={M with mI:=l}
abbrev cY.Sc (M:cY) (v:Ev):cY:={M with log:=M.log++[v]}
def eT (kind:Int) (core:Int) (no:Int):aQ:={aQ.zero with kind:=kind,core:=core,no:=no}
def B1 (core word no:Int):aQ:={eT 12 core no with d0:=word}
variable (C:bQ)
def cY.waits (M:cY) (i:Int):Bool:=M.dQ.calls i
def cY.cC (M:cY) (i:Nat) (value code:Int):cY×Int:=
 let r:=aY.cC (M.aH i) i value code
 if r.2.2≠0 then(M,r.2.2) else((M.vT i r.1).Sc r.2.1,0)
def Li (aF g:Int):List aQ:=(List.range aF.toNat).map fun i:Nat=>eT 13 i g
def cY.call (M:cY) (i:Nat) (a:Ask):cY×Int:=
 let r:=M.dQ.call C.aF a
 if r.2.2≠0 then M.cC i 0 r.2.2
 else
  let s:=M.mI.send C (Li C.aF a.cB)
  if s.2≠0 then(M,s.2) else((M.dH s.1).mG r.1,0)
def cY.walk (M:cY) (i:Nat) (g:Int):cY×Int:=
 let r:=(M.cR i).begin C g
 if r.2.2≠0 then(M,r.2.2)
 else
  let s:=M.mI.send C [eT 6 i r.2.1]
  if s.2≠0 then(M,s.2) else((M.dH s.1).Bh i r.1,0)
def cY.want (M:cY) (i:Nat) (line:Int) (write:Bool):cY×Int:=
 let r:=Ct.want C i (M.dK i) line (M.aH i).world write
 if r.2.2≠0 then(M,r.2.2)
 else
  let s:=M.mI.send C r.2.1
  if s.2≠0 then(M,s.2) else((M.dH s.1).sE i r.1,0)
def cY.known (M:cY) (i:Nat) (g:Int):Int:=(mM (M.cR i).known g).getD 0
def aEj (d:Ln) (a:Int):Int:=if a=0 then d.1 else d.2
def Ng (c:iT) (l a:Int):Int:=aEj (bV C.bH.toNat c.S l).1.d a
def cY.Np (M:cY) (i:Nat) (line at' owner:Int) (a:Acc):cY×Int:=
 let c1:=if a.read then rT C (M.dK i) line at' owner else M.dK i
 let c2:=if a.write then lK C c1 line at' owner a.value else c1
 (M.sE i c2).cC i (if a.read then Ng C (M.dK i) line at' else 0) 0
def cY.access (M:cY) (i:Nat) (a:Acc):cY×Int:=
 if ¬(0≤a.word∧a.word<C.lines*2) then M.cC i 0 19
 else
  let line:=a.word/2
  let g:=line/2
  let r:=(M.cR i).ask C (M.aH i).world g
  if r.2≠0 then(M,r.2)
  else if r.1=3 then M.walk C i g
  else if r.1=2 then M.cC i 0 19
  else if mO C.bH.toNat (M.dK i).S line (M.known i g) a.write=false then M.want C i line a.write
  else M.Np C i line (a.word % 2) (M.known i g) a
def cY.step (M:cY) (A:Int):cY×Int:=
 if ¬(0≤A∧A<C.aF) then(M,10)
 else
  let i:=A.toNat
  if(M.aH i).over then(M,20)
  else if M.waits A then(M,16)
  else match aY.mU (M.aH i) i with
   |some r=>((M.vT i r.1).Sc r.2,0)
   |none=>match aY.Vg (M.aH i) i with
    |some a=>M.call C i a
    |none=>match aY.Gi (M.aH i) with
     |some a=>M.access C i a
     |none=>(M,16)
def J2 (H:jO) (g:Int):jO:=(jZ C (jZ C H (g*2)).1 (g*2+1)).1
def cY.fX (M:cY) (n:aQ):cY×List aQ×Int:=
 if n.kind=1∨n.kind=2∨n.kind=3∨n.kind=4∨n.kind=5 then
  let r:=fZ C M.home n
  (M.qJ r.1,r.2.1,r.2.2)
 else if n.kind=8∨n.kind=9∨n.kind=10∨n.kind=11 then
  let r:=hJ C n.core (M.dK n.core.toNat) n
  (M.sE n.core.toNat r.1,r.2.1,r.2.2)
 else if n.kind=6 then
  let r:=tI M.dQ.fV n.no
  (M,[B1 n.core r.1 n.no],r.2)
 else if n.kind=12 then
  let r:=(M.cR n.core.toNat).walked C n.no n.d0
  (M.Bh n.core.toNat r.1,if r.2.2.1 then [] else [eT 6 n.core r.2.1],r.2.2.2)
 else if n.kind=13 then
  let r:=(M.cR n.core.toNat).drop C n.no
  (M.Bh n.core.toNat r.1,[eT 7 n.core n.no],r.2)
 else if n.kind=7 then
  let r:=M.dQ.dropped C.aF n.no n.core
  (if r.2.1 then(M.mG r.1).qJ (J2 C M.home n.no) else M.mG r.1,[],r.2.2)
 else(M,[],15)
def cY.vF (M:cY) (A B D:Int):cY×Int:=
 let t:=M.mI.take C A B D
 if t.2.2≠0 then(M,t.2.2)
 else
  let r:=M.fX C t.2.1
  if r.2.2≠0 then(M,r.2.2)
  else
   let s:=t.1.send C r.2.1
   if s.2≠0 then(M,s.2) else(r.1.dH s.1,0)
def cY.Xd (M:cY) (line:Int) (world:Int):Int×Bool:=
 if C.has line then((M.dQ.zA (line/2)).owner,!(M.dQ.zA (line/2)).locked&&Fl world (M.dQ.zA (line/2)).owner) else(0,false)
def cY.begin (M:cY) (A:Int):cY×Int:=
 let r:=jE C M.home A (M.Xd C A)
 if r.2.2≠0 then(M,r.2.2)
 else
  let s:=M.mI.send C r.2.1
  if s.2≠0 then(M,s.2) else((M.dH s.1).qJ r.1,0)
def Row.O8 (r:Row):Int:=(if r.busy=true∧r.served.kind=0 then 1 else 0)+((r.waits.filter fun n=>decide (n.kind=0)).length:Int)
def fG (H:jO) (l:Int):Int:=if C.has l then Row.O8 (H l.toNat).1 else 0
def cY.kP (M:cY) (g:Int):Bool:=decide (M.dQ.phase g=2)&& !(decide (fG C M.home (g*2)>0))&& !(decide (fG C M.home (g*2+1)>0))
def xM (H:jO) (g:Int):jO:=fun i=>if(i:Int)=g*2∨(i:Int)=g*2+1 then((H i).1,(0,0)) else H i
def cY.finish (M:cY) (A:Int):cY×Int:=
 if ¬(0≤A∧A<C.bP) then(M,10)
 else if M.kP C A=false then(M,16)
 else
  let r:=M.dQ.over A
  match r.2.1 with
  |none=>(M,r.2.2)
  |some u=>cY.cC (if u.zL then(M.mG r.1).qJ (xM M.home u.cB) else M.mG r.1) u.core.toNat 0 0
structure Do where
 kE:Int
 a:Int
 b:Int
 c:Int
 deriving DecidableEq
def Do.enc (d:Do):List Value:=[I d.kE,I d.a,I d.b,I d.c]
def cY.Fj (M:cY) (d:Do):cY×Int:=
 if d.kE=0 then M.step C d.a else if d.kE=1 then M.vF C d.a d.b d.c else if d.kE=2 then M.begin C d.a else if d.kE=3 then M.finish C d.a else(M,1)
def cY.sY (M:cY):List Do→Nat→cY×Nat×Int
 |[],k=>(M,k,0)
 |d::l,k=>if(M.Fj C d).2≠0 then((M.Fj C d).1,k,(M.Fj C d).2) else cY.sY (M.Fj C d).1 l (k+1)
def cY.runs (M:cY) (l:List Do):cY:=l.foldl (fun M d=>(M.Fj C d).1) M
def cY.notes (M:cY):List aQ:=(List.range C.aF.toNat).flatMap fun c=>(List.range 4).flatMap fun w=>M.mI c w
def cY.over (M:cY):Bool:=
 decide (M.notes C=[])&&((List.range C.aF.toNat).all fun i=>(M.aH i).over&& !(M.dK i).bg&& !(M.cR i).vH)&&((List.range C.lines).all fun l=>decide ((M.home l).1.waits=[]))
def cY.ready (M:cY):List Do:=
 ((List.range C.aF.toNat).filter fun i:Nat=> !(M.aH i).over&& !M.waits i).map (fun i:Nat=>(⟨0,i,0,0⟩:Do))++
 ((List.range C.aF.toNat).flatMap fun c=>((List.range 4).filter fun w=>decide (M.mI c w≠[])).map fun w:Nat=>(⟨1,c,w,0⟩:Do))++
 ((List.range C.lines).filter fun l=> !(M.home l).1.busy&&decide ((M.home l).1.waits≠[])).map (fun l:Nat=>(⟨2,l,0,0⟩:Do))++
 ((List.range C.bP.toNat).filter fun g:Nat=>M.kP C g).map fun g:Nat=>(⟨3,g,0,0⟩:Do)
structure MC where
 C:bQ
 qN:List (List Ins)
 qp:List Int
 eA:List Int
 words:List Int
def MC.Aw (c:MC):Int:=At.Aw c.C c.qN c.qp c.eA c.words
def MC.home (c:MC):jO:=fun i=>((rF c.C.lines i).1,At.words mY c.words 0 i)
def MC.new (c:MC):cY where
 aH:=fun i=>pT (c.qN.getD i []) (c.qp.getD i 0)
 dK:=fun _=>iT.new
 cR:=fun _=>Ft
 home:=c.home
 dQ:=⟨c.eA.map fun o=>⟨o,false⟩,fun _=>none⟩
 mI:=fun _ _=>[]
 log:=[]
end Go.Mc
end
section
open Go Go.Ab
attribute [local irreducible] aZ Br oM rI sQ Bi lE tH kU Qb gI lF pD pW oR kH zH tJ W2 Ut Qa Nn T3 P6 Km Lx T2 jR mX rV iO copyV iB vL Va Uo Fm kB Lu Sv Vn nF rH wK zB Cl wX T1 rM qX jI gS cI cA
section
namespace Go.Proofs.YtajjljbmfdboaaaGreatDoor
open Go Go.Ab Go.Hm Go.At Go.Mc
instance:Fx jP.enc 2:=⟨fun _=>rfl,fun _=>rfl⟩
set_option maxRecDepth 100000
variable {G:Bg} {h:AH} {L L':List HP} {Q:Value→AH→Prop}
def fT (t:Nat) (es:List jP):HP:=sS fun x:Option Addr×Nat=>sp [aE t 0 [.slice x.1 es.length x.2],ls jP.enc 2 70 x.1 x.2 es]
theorem C9 {t:Nat} {es:List jP} (hs:Hs G h (fT t es::L)):∃a c,Hs G h (aE t 0 [.slice a es.length c]::ls jP.enc 2 70 a c es::L):=by
 obtain⟨⟨a,c⟩,hs⟩:=hs.Be
 exact⟨a,c,hs.D2⟩
theorem iN {t:Nat} {es:List jP} {a:Option Addr} {c:Nat} (hs:Hs G h (aE t 0 [.slice a es.length c]::ls jP.enc 2 70 a c es::L)):Hs G h (fT t es::L):=
 Hs.wM (A:=fun x:Option Addr×Nat=>sp [aE t 0 [.slice x.1 es.length x.2],ls jP.enc 2 70 x.1 x.2 es]) (a,c) hs.Ex
theorem zo {es:List jP} {g:Int} (h0:0≤g) (h:g<es.length):es[g.toNat]?=some (es.getD g.toNat jK):=by
 simp[List.getD_eq_getElem?_getD,List.getElem?_eq_getElem (show g.toNat<es.length by omega)]
theorem dy {t:Nat} {es:List jP} {g:Int} (hs:Hs G h L) [m:Has (fT t) L es L']
  (hk:∀h',Hs G h' (fT t es::L')→Q (if 0≤g∧g<es.length then .tuple ⟨[.agg ⟨(es.getD g.toNat jK).enc⟩,I 0]⟩ else .tuple ⟨[.agg ⟨jK.enc⟩,I 10]⟩) h'):Cl Pr K 72 [pt t 0 0,I g] h Q:=by
 obtain⟨a,c,hs⟩:=C9 (m.of hs)
 refine cW (bK hs fun p h hs=>cS (bS (bW (aU (aS (fun h1=>?_) (fun h1=>?_))))))
 ·rw[if_neg (by omega)] at hk
  refine aK (c:=jK.enc) rfl (bA hs rfl rfl rfl rfl fun h hs=>aN hs (by decide) (l:=jK.enc) rfl rfl (hk _ (iN hs.tail)))
 ·refine aB (aA (aC (b:=t) (o:=0) hs rfl (bZ (dM (aS (fun h2=>?_) (fun h2=>?_))))))
  ·rw[if_neg (by omega)] at hk
   refine aK (c:=jK.enc) rfl (bA hs rfl rfl rfl rfl fun h hs=>aN hs (by decide) (l:=jK.enc) rfl rfl (hk _ (iN hs.tail)))
  ·rw[if_pos (by omega)] at hk
   refine aB (aA (aC (b:=t) (o:=0) hs rfl (tE (l:=es) (a:=a) (c:=c) (enc:=jP.enc) (e:=70) hs (by decide) (by omega) (zo (by omega) (by omega)) (bA hs rfl rfl rfl rfl fun h hs=>aN (b:=p) (o:=0) hs (by decide) (l:=(es.getD g.toNat jK).enc) rfl rfl (hk _ (iN (a:=a) (c:=c) hs.to))))))
theorem Dx {t:Nat} {es:List jP} {g:Int} {x:jP} (hs:Hs G h L) [m:Has (fT t) L es L']
  (hk:∀h',Hs G h' (fT t (if(0≤g∧g<es.length)∧(0≤x.owner∧x.owner≤4) then es.set g.toNat x else es)::L')→Q (I (if(0≤g∧g<es.length)∧(0≤x.owner∧x.owner≤4) then 0 else 10)) h'):Cl Pr K 146 [pt t 0 0,I g,.agg ⟨x.enc⟩] h Q:=by
 obtain⟨a,c,hs⟩:=C9 (m.of hs)
 refine cW (dJ hs fun p h hs=>cS (bS (bW (aU (aS (fun h1=>?_) (fun h1=>?_))))))
 ·rw[if_neg (by omega),if_neg (by omega)] at hk
  exact hk _ (iN hs.tail)
 ·refine aB (aA (aC (b:=t) (o:=0) hs rfl (bZ (dM (aS (fun h2=>?_) (fun h2=>?_))))))
  ·rw[if_neg (by omega),if_neg (by omega)] at hk
   exact hk _ (iN hs.tail)
  ·refine aA (aC (b:=p) (o:=0) hs rfl (Cj (bU (dI (aS (fun h3=>bW (aR hs fun r h hs=>?_)) (fun h3=>?_))))))
   ·rw[if_pos (by omega),if_pos (by omega)] at hk
    refine aB (aA (aC (b:=t) (o:=0) hs rfl (aN (b:=p) (o:=0) hs (by decide) (l:=x.enc) rfl rfl (X9 (l:=es) (a:=a) (c:=c) (enc:=jP.enc) (e:=70) (y:=x) hs (by decide) (by omega) (by omega) fun h hs=>hk _ ?_))))
    have:Hs G h (aE t 0 [.slice a es.length c]::ls jP.enc 2 70 a c (es.set g.toNat x)::L'):=hs.to
    rw[←List.length_set (i:=g.toNat) (a:=x)] at this
    exact iN this
   ·rw[if_neg (by omega),if_neg (by omega)] at hk
    exact hk _ (iN hs.tail)
theorem S8 {a:Option Addr} {c:Nat} {es:List jP} (hb:es.length≤16) (hs:Hs G h L) [m:Has (ls jP.enc 2 70 a c) L es L']
  (hk:∀a' c' h',Hs G h' (ls jP.enc 2 70 a' c' es::ls jP.enc 2 70 a c es::L')→Q (.slice a' es.length c') h'):Cl Pr K 180 [.slice a es.length c] h Q:=
 cW (yL (e:=70) (show Hs G h (dB 2 70 a c (es.length,eL jP.enc es)::L') from m.of hs) (by omega) hk)
theorem Uf {t:Nat} {es:List jP} (hb:es.length≤16) (hs:Hs G h L) [m:Has (fT t) L es L']
  (hk:∀t' h',Hs G h' (fT t' es::fT t es::L')→Q (pt t' 0 0) h'):Cl Pr K 140 [pt t 0 0] h Q:=by
 obtain⟨a,c,hs⟩:=C9 (m.of hs)
 refine cW (cS (bS (aB (aA (aC (b:=t) (o:=0) hs rfl (S8 hb hs fun a' c' h hs=>?_))))))
 refine aK (c:=[.slice a' es.length c']) rfl (dJ hs fun p h hs=>hk _ _ ?_)
 have hs:Hs G h (aE t 0 [.slice a es.length c]::ls jP.enc 2 70 a c es::aE p 0 [.slice a' es.length c']::ls jP.enc 2 70 a' c' es::L'):=hs.to
 have hs:=iN hs
 exact(iN (show Hs G h (aE p 0 [.slice a' es.length c']::ls jP.enc 2 70 a' c' es::fT t es::L') from hs.to)).to
theorem Aq (n:Nat):eB [I 0,.bool false] n=eL jP.enc (List.replicate n jK):=by
 induction n with
 |zero=>rfl
 |succ n ih=>rw[List.replicate_succ,oG,←ih];rfl
theorem Z9 {n:Int} (h1:1≤n∧n≤16) (hs:Hs G h L) (hk:∀t' h',Hs G h' (fT t' (List.replicate n.toNat jK)::L)→Q (.tuple ⟨[pt t' 0 0,I 0]⟩) h'):Cl Pr K 145 [I n] h Q:=by
 refine cW (aU (aI (by omega) (kG (aI (by omega) (O3 (by omega) (by omega) (by omega) ?_)))))
 refine dP (W:=2) (n:=n.toNat) (c:=n.toNat) hs (by rw[Aq,A2,List.length_replicate]) rfl (by rw[Aq];exact Iy) ?_
 intro a h hs
 refine aK (c:=[.slice (some a) n.toNat n.toNat]) rfl (dJ hs fun p h hs=>hk _ _ ?_)
 rw[Aq] at hs
 have e:(List.replicate n.toNat jK).length=n.toNat:=List.length_replicate
 refine iN (a:=some a) (c:=n.toNat) ?_
 unfold ls
 rw[e]
 exact hs
theorem Jg {n g:Int} (h1:0≤n∧n≤100) (h2:0≤g∧g≤100) (hk:Q (I (nM n g)) h):Cl Pr K 303 [I n,I g] h Q:=by
 refine cW (bI (by omega) (A4 (by omega) (By (by omega) (by omega) (by omega) (bI (by omega) ?_))))
 unfold nM at hk
 show Q _ _
 rw[show n+4 - 1=n+3 by omega]
 exact hk
theorem sZ {g:Int} (h1:0≤g∧g<16) (hk:Q (.tuple ⟨[I (g/4),I 0]⟩) h):Cl Pr K 257 [I g] h Q:=
 cW (aU (aI (by omega) (dM (aI (by omega) (By (by omega) (by omega) (by omega) hk)))))
theorem mN {p:Nat} {a:Int} {x:jP} {b:Bool} {e:Int} {z:List Value} (hs:Hs G h (aE p 0 z::L)) (hz:z.length=2) (hk:∀h',Hs G h' L→Q (.tuple ⟨[I a,.agg ⟨x.enc⟩,.bool b,I e]⟩) h'):
  aZ (sQ h 2 (pt p 0 0) (.agg ⟨x.enc⟩)) fun h4=>aZ (rI h4 2 (pt p 0 0)) fun v5=>Q (.tuple ⟨[I a,v5,.bool b,I e]⟩) h4:=
 bA hs (by rw[hz];rfl) rfl rfl rfl fun h hs=>aN hs (by decide) (l:=x.enc) rfl rfl (hk _ hs.tail)
end Go.Proofs.YtajjljbmfdboaaaGreatDoor
end
end
section
namespace Go.Proofs.YtajjljbmfdboaaaGreatDoor
open Go Go.Ab Go.Hm Go.At Go.Mc
theorem aDd {x y:jP} {k:Value→Prop} (hk:k (.bool (decide (x≠y)))) {c0:Bool} (hc:c0=true:=by kernel_rfl):Lx c0 [0,1] .neq (.agg ⟨x.enc⟩) (.agg ⟨y.enc⟩) k:=by
 refine⟨hc,_,?_,hk⟩
 obtain⟨a,b⟩:=x
 obtain⟨c,d⟩:=y
 simp[Km,nC,Nh,P8,jP.enc]
 by_cases h1:a=c<;>cases b<;>cases d<;>simp[h1]
set_option maxRecDepth 100000
attribute [local irreducible] aZ Br oM rI sQ Bi lE tH kU Qb gI lF pD pW oR kH zH tJ W2 Ut Qa Nn T3 P6 Km Lx T2 jR mX rV iO copyV iB vL Va Uo Fm kB Lu Sv Vn nF rH wK zB Cl wX T1 rM qX jI gS cI cA
variable {G:Bg} {h:AH} {L L':List HP} {Q:Value→AH→Prop}
theorem mu {b o n c sz i:Nat} {k:Value→Prop} (h1:i<n) (hk:k (pt b (o+i*sz) 0)):aZ (jR sz (.slice (some ⟨b,o,none⟩) n c) (I i)) k:=dU h1 hk
theorem fj {p:Nat} {x:Int} {ws:List Int} (hw:ws.length<1000) (hs:Hs G h L) {a:Option Addr} {c:Nat} [m:Has (aE p 0) L [.slice a ws.length c] L'] {M:List HP} [m2:Has (dB 1 3 a c) L' (ws.length,ws.map I) M]
  (hk:∀a' c' h',Hs G h' (aE p 0 [.slice a' (ws++[x]).length c']::dB 1 3 a' c' ((ws++[x]).length,(ws++[x]).map I)::M)→Q (.tuple ⟨[]⟩) h'):Cl Pr K 302 [I x,pt p 0 0] h Q:=by
 have hs:Hs G h (dB 1 3 a c (ws.length,ws.map I)::aE p 0 [.slice a ws.length c]::M):=((m.of hs).perm ((m2.perm.cons _).trans (List.Perm.swap _ _ _)))
 refine cW (aC (b:=p) (o:=0) hs rfl (aK (c:=[I x]) rfl (dP (W:=1) (n:=1) (c:=1) hs rfl rfl rfl fun a2 h hs=>?_)))
 refine pL (a:=a) (c:=c) (n:=ws.length) (cs:=ws.map I) (a2:=some a2) (c2:=1) (m:=1) (ns:=[I x]) hs (by omega) fun a' c' h hs=>?_
 refine bA (b:=p) (o:=0) hs rfl rfl rfl rfl fun h hs=>?_
 have:=hk a' c' h
 rw[List.length_append,List.map_append] at this
 simp only[List.length_singleton,List.map_cons,List.map_nil] at this
 exact this hs.to
def wsR (p:Nat) (ws:List Int):HP:=sS fun x:Option Addr×Nat=>sp [aE p 0 [.slice x.1 ws.length x.2],dB 1 3 x.1 x.2 (ws.length,ws.map I)]
theorem wO {p:Nat} {x:Int} {ws:List Int} (hw:ws.length<1000) (hs:Hs G h L) [m:Has (wsR p) L ws L'] (hk:∀h',Hs G h' (wsR p (ws++[x])::L')→Q (.tuple ⟨[]⟩) h'):wX Pr K (.func (.func 302) #[] #[pt p 0 0]) [I x] h Q:=by
 obtain⟨⟨a,c⟩,hs⟩:=(m.of hs).Be
 have hs:=hs.D2
 refine oN rfl ?_
 exact fj hw hs fun a' c' h hs=>hk _ (Hs.wM (A:=fun x:Option Addr×Nat=>sp [aE p 0 [.slice x.1 _ x.2],dB 1 3 x.1 x.2 (_,_)]) (a',c') hs.Ex)
abbrev vg (t:Nat) (a:Option Addr) (c:Nat) (es:List jP) (p:Nat) (ws:List Int) (L:List HP):List HP:=aE t 0 [.slice a es.length c]::ls jP.enc 2 70 a c es::wsR p ws::L
theorem Zx {t p c:Nat} {a:Option Addr} {es:List jP} (hb:es.length≤16) (hk:∀h' b c',Hs G h' (dB 1 3 b c' ((iK es).length,(iK es).map I)::fT t es::L)→Q (.slice b (iK es).length c') h') (ho:∀x∈es,0≤x.owner∧x.owner≤4):
  ∀(f i:Nat) (ws:List Int) (h:AH),i+f=es.length→ws.length=i+16∨ws.length≤16+i→ws++(es.drop i).map fy=iK es→Hs G h (vg t a c es p ws L)→
   Dd 256 6 [] Q [(pt p 0 0),(.func (.func 302) #[] #[pt p 0 0]),(.slice a es.length c),(I es.length),(I i)] h:=by
 intro f
 induction f with
 |zero=>
  intro i ws h hi hw he hs
  refine bW (aU (aI (by omega) ?_))
  rw[List.drop_of_length_le (by omega),List.map_nil,List.append_nil] at he
  subst he
  obtain⟨⟨b,c'⟩,hs⟩:=(hs.front (wsR p (iK es))).Be
  have hs:=hs.D2
  refine aC (b:=p) (o:=0) hs rfl (hk _ _ _ ?_)
  have hs:Hs G h (aE t 0 [.slice a es.length c]::ls jP.enc 2 70 a c es::dB 1 3 b c' ((iK es).length,(iK es).map I)::L):=hs.to
  exact(iN hs).kI
 |succ f ih=>
  intro i ws h hi hw he hs
  obtain⟨x,hx,hd⟩:=lU (l:=es) (i:=i) (by omega)
  have hox:=ho x (List.mem_of_getElem? hx)
  rw[hd,List.map_cons] at he
  refine bW (aU (bM (by omega) (bW (tE (l:=es) (a:=a) (c:=c) (enc:=jP.enc) (e:=70) hs (by decide) (by omega) hx (bK hs fun p3 h hs=>bA hs rfl rfl rfl rfl fun h hs=>aA (aC (b:=p3) (o:=0) hs rfl ?_))))))
  have hput:∀(v:Int) (h:AH),v=fy x→Hs G h (aE p3 0 x.enc::vg t a c es p ws L)→wX Pr K (.func (.func 302) #[] #[pt p 0 0]) [I v] h fun v3 h3=>aZ (tJ .add (I i) (I 1)) fun v4=>Dd 256 6 [] Q [(pt p 0 0),(.func (.func 302) #[] #[pt p 0 0]),(.slice a es.length c),(I es.length),v4] h3:=by
   intro v h hv hs
   refine wO (p:=p) (ws:=ws) (by omega) hs fun h hs=>bI (by omega) (ih (i+1) (ws++[v]) h (by omega) (by simp;omega) ?_ hs.to)
   rw[hv,List.append_assoc];exact he
  refine dA (fun h1=>bW (aA (aC (b:=p3) (o:=0) hs rfl (bI (by omega) (hput _ h ?_ hs.to))))) (fun h1=>bW (aA (aC (b:=p3) (o:=0) hs rfl (hput _ h ?_ hs.to))))
  ·unfold fy;rw[h1];rfl
  ·unfold fy;rw[h1];rfl
def Za (es:List jP) (j n:Nat):List Int:=((List.range n).drop j).map (R9 es)
theorem az {t p c:Nat} {a:Option Addr} {es:List jP} (hb:es.length≤16) (hk:∀h' b c',Hs G h' (dB 1 3 b c' ((iK es).length,(iK es).map I)::fT t es::L)→Q (.slice b (iK es).length c') h') (ho:∀x∈es,0≤x.owner∧x.owner≤4):
  ∀(f j:Nat) (ws:List Int) (h:AH),j+f=(es.length+3)/4→ws.length=j→ws++Za es j ((es.length+3)/4)=(List.range ((es.length+3)/4)).map (R9 es)→Hs G h (vg t a c es p ws L)→
   Dd 256 2 [] Q [(pt t 0 0),(pt p 0 0),(.func (.func 302) #[] #[pt p 0 0]),(I es.length),(I (4*j:Nat))] h:=by
 intro f
 induction f with
 |zero=>
  intro j ws h hj hw he hs
  refine bW (aU (aI (by omega) (bW (aB (aA (aC (b:=t) (o:=0) hs rfl (bZ ?_)))))))
  unfold Za at he
  rw[List.drop_of_length_le (by rw[List.length_range];omega),List.map_nil,List.append_nil] at he
  refine Zx hb hk ho es.length 0 ws h (by omega) (.inr (by omega)) ?_ hs
  rw[List.drop_zero,he];rfl
 |succ f ih=>
  intro j ws h hj hw he hs
  have hlt:4*j<es.length:=by omega
  obtain⟨x,hx,_⟩:=lU (l:=es) (i:=4*j) hlt
  have hgx:es.getD (4*j) jK=x:=by rw[List.getD_eq_getElem?_getD,hx];rfl
  have hox:=ho x (List.mem_of_getElem? hx)
  have hgr:Za es j ((es.length+3)/4)=R9 es j::Za es (j+1) ((es.length+3)/4):=by
   unfold Za
   rw[List.drop_eq_getElem_cons (by rw[List.length_range];omega),List.getElem_range,List.map_cons]
  rw[hgr] at he
  have step:∀(v:Int) (h:AH) (M:List HP),v=R9 es j→[Sub M L]→Hs G h (aE t 0 [.slice a es.length c]::ls jP.enc 2 70 a c es::wsR p ws::M)→wX Pr K (.func (.func 302) #[] #[pt p 0 0]) [I v] h fun v3 h3=>aZ (tJ .add (I (4*j:Nat)) (I 4)) fun v4=>Dd 256 2 [] Q [(pt t 0 0),(pt p 0 0),(.func (.func 302) #[] #[pt p 0 0]),(I es.length),v4] h3:=by
   intro v h M hv _ hs
   refine wO (p:=p) (ws:=ws) (by omega) hs fun h hs=>bI (by omega) ?_
   rw[show((4*j:Nat):Int)+4=((4*(j+1):Nat):Int) by omega]
   refine ih (j+1) (ws++[v]) h (by omega) (by simp;omega) ?_ hs.to
   rw[hv,List.append_assoc];exact he
  refine bW (aU (bM (by omega) (bW (aB (aA (aC (b:=t) (o:=0) hs rfl (J6 (l:=es) (a:=a) (c:=c) (enc:=jP.enc) (e:=70) (j:=0) hs (by omega) (x:=x) (by rw[Int.toNat_natCast];exact hx) rfl (aK (c:=(⟨x.owner,false⟩:jP).enc) rfl (bK hs fun p8 h hs=>bA hs rfl rfl rfl rfl fun h hs=>aB (aA (aC (b:=t) (o:=0) hs rfl (bI (by omega) ?_))))))))))))
  refine yw ?_
  rw[show(if(es.length:Int)<((4*j:Nat):Int)+4 then(es.length:Int) else((4*j:Nat):Int)+4)=((min (4*j+4) es.length:Nat):Int) by split<;>omega]
  refine vf (l:=es) (a:=a) (c:=c) (enc:=jP.enc) (e:=70) hs hlt (by omega) (by omega) fun b o ha=>?_
  subst ha
  refine bZ ?_
  have hp8:(⟨x.owner,false⟩:jP)=⟨(es.getD (4*j) jK).owner,false⟩:=by rw[hgx]
  have inner:∀(f i:Nat) (h:AH),i+f=min (4*j+4) es.length - 4*j→(((es.drop (4*j)).take 4).take i).all (fun y=>decide (y=⟨x.owner,false⟩))=true→Hs G h (aE p8 0 (⟨x.owner,false⟩:jP).enc::vg t (some ⟨b,o,none⟩) c es p ws L)→
    Dd 256 5 [] Q [(pt t 0 0),(pt p 0 0),(.func (.func 302) #[] #[pt p 0 0]),(I es.length),(I (4*j:Nat)),(pt p8 0 0),(.slice (some ⟨b,o+4*j*2,none⟩) (min (4*j+4) es.length - 4*j) (c - 4*j)),(I (min (4*j+4) es.length - 4*j:Nat)),(I i)] h:=by
   intro f
   induction f with
   |zero=>
    intro i h hi hall hs
    refine bW (aU (aI (by omega) (bW (aA (aC (b:=p8) (o:=0) hs rfl (Ay (by dsimp only;omega) ?_))))))
    refine step _ h (aE p8 0 (⟨x.owner,false⟩:jP).enc::L) ?_ hs.to
    unfold R9 W6
    rw[←hp8]
    rw[List.take_of_length_le (by simp;omega)] at hall
    rw[if_pos hall,hgx]
   |succ f ih2=>
    intro i h hi hall hs
    obtain⟨y,hy,_⟩:=lU (l:=es) (i:=4*j+i) (by omega)
    refine bW (aU (bM (by omega) (bW (mu (by omega) ?_))))
    rw[show o+4*j*2+i*2=o+(4*j+i)*2 by omega]
    refine za (l:=es) (c:=c) (enc:=jP.enc) (e:=70) hs (by decide) hy (bK hs fun p3 h hs=>bA hs rfl rfl rfl rfl fun h hs=>aN (b:=p3) (o:=0) hs (by decide) (l:=y.enc) rfl rfl (aN (b:=p8) (o:=0) hs (by decide) (l:=(⟨x.owner,false⟩:jP).enc) rfl rfl (aDd (aS (fun h1=>?_) (fun h1=>?_)))))
    ·refine bW (Jg (by omega) (by omega) (Ay (by unfold nM;omega) (bI (by unfold nM;omega) ?_)))
     refine step _ h (aE p3 0 y.enc::aE p8 0 (⟨x.owner,false⟩:jP).enc::L) ?_ hs.to
     unfold R9
     rw[if_neg]
     intro hpl
     unfold W6 at hpl
     rw[List.all_eq_true] at hpl
     have:=hpl y (by
      refine List.mem_of_getElem? (i:=i) ?_
      rw[List.getElem?_take_of_lt (by omega),List.getElem?_drop];exact hy)
     rw[←hp8] at this
     exact h1 (of_decide_eq_true this)
    ·refine bW (bI (by omega) ?_)
     have hall':(((es.drop (4*j)).take 4).take (i+1)).all (fun y=>decide (y=⟨x.owner,false⟩))=true:=by
      rw[List.take_add_one,List.all_append,hall,Bool.true_and]
      rw[List.getElem?_take_of_lt (by omega),List.getElem?_drop,hy]
      simpa using h1
     exact ih2 (i+1) h (by omega) hall' hs.to
  have:=inner (min (4*j+4) es.length - 4*j) 0 h (by omega) (by simp) hs.to
  exact this
theorem fp {t:Nat} {es:List jP} (hb:es.length≤16) (ho:∀x∈es,0≤x.owner∧x.owner≤4) (hs:Hs G h L) [m:Has (fT t) L es L'] (hk:∀h' b c',Hs G h' (dB 1 3 b c' ((iK es).length,(iK es).map I)::fT t es::L')→Q (.slice b (iK es).length c') h'):
  Cl Pr K 256 [pt t 0 0] h Q:=by
 obtain⟨a,c,hs⟩:=C9 (m.of hs)
 refine cW (cS (bS (bW (bK hs fun p h hs=>aB (aA (aC (b:=t) (o:=0) hs rfl (bZ ?_)))))))
 have hs:=fY (W:=1) (e:=3) hs
 have hs:Hs G h (aE p 0 [.slice none 0 0]::dB 1 3 none 0 (0,[])::aE t 0 [.slice a es.length c]::ls jP.enc 2 70 a c es::L'):=hs.to
 have hs:Hs G h (wsR p []::_):=Hs.wM (A:=fun x:Option Addr×Nat=>sp [aE p 0 [.slice x.1 0 x.2],dB 1 3 x.1 x.2 (0,[])]) (none,0) hs.Ex
 exact az (a:=a) (c:=c) hb hk ho ((es.length+3)/4) 0 [] h (by omega) rfl (by simp[Za]) hs.to
theorem kn {t:Nat} {es:List jP} {x:Int} (hb:es.length≤16) (ho:∀x∈es,0≤x.owner∧x.owner≤4) (hs:Hs G h L) [m:Has (fT t) L es L'] (hk:∀h',Hs G h' (fT t es::L')→Q (.tuple ⟨[I (tI es x).1,I (tI es x).2]⟩) h'):
  Cl Pr K 204 [pt t 0 0,I x] h Q:=by
 unfold tI at hk
 refine cW (cS (bS (bW (fp hb ho hs fun h b c' hs=>aU (aS (fun h1=>?_) (fun h1=>bZ (dM (aS (fun h2=>?_) (fun h2=>?_)))))))))
 ·rw[if_neg (by omega)] at hk;exact hk _ hs.tail
 ·rw[if_neg (by omega)] at hk;exact hk _ hs.tail
 ·rw[if_pos (by omega)] at hk
  obtain⟨n,rfl⟩:=Int.eq_ofNat_of_zero_le (show 0≤x by omega)
  have hn:n<(iK es).length:=by omega
  refine ib (e:=3) (cs:=(iK es).map I) hs (u:=I ((iK es).getD n 0)) (by simp[List.getD_eq_getElem?_getD,List.getElem?_eq_getElem hn]) (hk _ hs.tail)
end Go.Proofs.YtajjljbmfdboaaaGreatDoor
end
section
open Go Go.Ab
attribute [local irreducible] aZ Br oM rI sQ Bi lE tH kU Qb gI lF pD pW oR kH zH tJ W2 Ut Qa Nn T3 P6 Km Lx T2 jR mX rV iO copyV iB vL Va Uo Fm kB Lu Sv Vn nF rH wK zB Cl wX T1 rM qX jI gS cI cA
section
namespace Go.Proofs.YtajjljbmfdboaaaGreatDoor
open Go Go.Ab Go.Hm Go.At Go.Mc
set_option maxRecDepth 100000
variable {G:Bg} {h:AH} {L L':List HP} {Q:Value→AH→Prop}
theorem lg {n g a w:Int} (hn:(1≤n∧n≤16)∧(0≤g∧g<n)) (hw:0≤w∧w≤1000000) (hs:Hs G h L)
  (hk:∀h',Hs G h' L→Q (.tuple ⟨[I (G9 n g a w).1,.agg ⟨(G9 n g a w).2.1.enc⟩,.bool (G9 n g a w).2.2.1,I (G9 n g a w).2.2.2]⟩) h'):Cl Pr K 258 [I n,I g,I a,I w] h Q:=by
 unfold G9 at hk
 rw[if_neg (by omega)] at hk
 refine cW (bK hs fun p h hs=>aU (aI (by omega) (kG (aI (by omega) (aU (aI (by omega) (dM (aI (by omega) (bW (By (by omega) (by omega) (by omega) (Jg (by omega) (by omega) (bC (aS (fun h1=>?_) (fun h1=>?_))))))))))))))
 rotate_left
 ·refine bW (bC (aS (fun h2=>?_) (fun h2=>?_)))
  ·refine bW (Cj (aS (fun h3=>?_) (fun h3=>?_)))
   ·rw[if_neg h1,if_pos h2,if_pos (show G4 w=true from decide_eq_true h3)] at hk
    exact aK (c:=(⟨w,false⟩:jP).enc) rfl (mN (z:=[I 0,.bool false]) hs rfl hk)
   ·refine bW (dM (aS (fun h4=>?_) (fun h4=>?_)))
    ·refine A4 (by omega) (Cj (aS (fun h5=>?_) (fun h5=>?_)))
     ·rw[if_neg h1,if_pos h2,if_neg (show ¬G4 w=true from fun e=>h3 (of_decide_eq_true e)),if_pos ⟨h4,decide_eq_true h5⟩] at hk
      exact A4 (by omega) (aK (c:=(⟨w - 8,true⟩:jP).enc) rfl (mN (z:=[I 0,.bool false]) hs rfl hk))
     ·rw[if_neg h1,if_pos h2,if_neg (show ¬G4 w=true from fun e=>h3 (of_decide_eq_true e)),if_neg (fun e=>h5 (of_decide_eq_true e.2))] at hk
      exact aK (c:=jK.enc) rfl (mN (z:=[I 0,.bool false]) hs rfl hk)
    ·rw[if_neg h1,if_pos h2,if_neg (show ¬G4 w=true from fun e=>h3 (of_decide_eq_true e)),if_neg (fun e=>h4 e.1)] at hk
     exact aK (c:=jK.enc) rfl (mN (z:=[I 0,.bool false]) hs rfl hk)
  ·rw[if_neg h1,if_neg h2] at hk
   exact aK (c:=jK.enc) rfl (mN (z:=[I 0,.bool false]) hs rfl hk)
 ·rw[if_pos h1] at hk
  refine bW (Ay (by omega) (Jg (by omega) (by omega) ?_))
  refine Ay (by unfold nM;omega) (bI (by unfold nM;omega) (bC (aS (fun h2=>?_) (fun h2=>?_))))
  rotate_left
  refine bW (Ra (by omega) (by omega) (bC (aS (fun h3=>?_) (fun h3=>?_))))
  refine By (by omega) (by omega) (by omega) (Cj (aS (fun h4=>?_) (fun h4=>?_)))
  rotate_left 3
  ·rw[if_pos h2] at hk
   exact aK (c:=jK.enc) rfl (mN (z:=[I 0,.bool false]) hs rfl hk)
  ·rw[if_neg h2,if_pos ⟨h3,decide_eq_true h4⟩] at hk
   exact By (by omega) (by omega) (by omega) (aK (c:=(⟨w/4,false⟩:jP).enc) rfl (mN (z:=[I 0,.bool false]) hs rfl hk))
  ·rw[if_neg h2,if_neg (fun e=>h4 (of_decide_eq_true e.2))] at hk
   exact aK (c:=jK.enc) rfl (mN (z:=[I 0,.bool false]) hs rfl hk)
  ·rw[if_neg h2,if_neg (fun e=>h3 e.1)] at hk
   exact aK (c:=jK.enc) rfl (mN (z:=[I 0,.bool false]) hs rfl hk)
end Go.Proofs.YtajjljbmfdboaaaGreatDoor
end
end
section
namespace Go.Ct
open Go Go.Ab
def oq (s:Array UInt8) (a b c d:Bool) (x y z:Int):List Value:=[.string ⟨s⟩,.bool a,.bool b,.bool c,.bool d,I x,I y,I z]
def gZ:List Value:=oq #[73] false false false false 0 0 0++oq #[83] true false false false 0 1 0++oq #[69] true true false true 4 1 0++oq #[79] true false true true 0 3 0++oq #[77] true true true true 4 3 0
end Go.Ct
end
