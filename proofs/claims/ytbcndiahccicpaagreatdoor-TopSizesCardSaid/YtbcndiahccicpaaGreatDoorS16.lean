/- A part of the proof. -/
import Derived.Test.YtbcndiahccicpaaGreatDoorS5
import Derived.Test.YtbcndiahccicpaaGreatDoorS15
import Derived.Test.YtbcndiahccicpaaGreatDoorS8
import Derived.KernelRfl
import Derived.Test.YtbcndiahccicpaaGreatDoorS9
set_option linter.all false
set_option maxRecDepth 100000
open Go Go.Ab
namespace Go.Proofs.Z
abbrev n_:FT:=⟨[],[],false,0,[]⟩
def tb0:JD:=[n_,n_,n_,⟨[(2,[0,1,2]),(1022,[2,3,7]),(16380,[2,3,7,8,9]),(262096,[2,3,7,8,9,10]),(524196,[2,3,7,8,9,10]),(16382,[3,7,8,9]),(262142,[8,9,15]),(16777168,[8,9,15,17,18]),(67108680,[8,9,15,17,18]),(134217363,[8,9,15,17,18,19])],[],false,524440,[]⟩,⟨[(2,[0]),(872,[3,9,10,11]),(13976,[3,9,10,11]),(223640,[3,9,10,11,15,16,17]),(3578264,[3,9,10,11,15,16,17]),(3495,[3,9,10,11]),(28626124,[]),(894567,[3,9,10,11,15,16,17])],[],false,166528,[]⟩,⟨[(2,[]),(126,[4,5])],[],false,2576,[(8,[(0,4),(1,4),(7,11)])]⟩,⟨[(2,[0]),(14,[1])],[],false,2,[]⟩,⟨[(2,[0,1]),(14,[0,1]),(488,[0,1,6,13,14,15]),(7832,[0,1,6,13,14,15]),(31334,[0,1,6,7,8,13,14,15]),(1959,[0,1,6,13,14,15])],[],false,41280,[]⟩,⟨[(2,[0,1,14,15]),(14,[2,3,4,5,14,15]),(488,[2,3,6,14,15])],[(122,[2,3,6,14,15])],true,76,[(10,[(0,5)])]⟩,⟨[(2,[0]),(232,[3,7,8,9]),(3736,[3,7,8,9])],[],false,640,[]⟩,⟨[(2,[0,1,2,3,4]),(28,[1,2,3,4,5]),(60,[1,2,3,4,5]),(488,[1,2,3,4,5,56,57,58]),(7832,[1,2,3,4,5,56,57,58]),(124,[1,2,3,4,5]),(1959,[1,2,3,4,5,56,57,58]),(126,[1,2,3,4,5]),(1020,[1,2,3,4,5,17]),(8168,[1,2,3,5,17,87,88,89]),(130712,[1,2,3,5,17,87,88,89]),(1022,[1,2,3,5,17]),(32679,[1,2,3,5,17,87,88,89]),(32744,[1,2,22,115,116]),(523928,[1,2,22,115,116])],[],false,83076750510269766970138583269113888,[(25,[(0,10),(1,10),(2,10),(6,5)])]⟩,⟨[(2,[0,1,2]),(28,[0,1,2,6]),(30,[0,1,2,6]),(126,[0,1,2,6,8]),(32724,[6,8,9,10,11]),(32726,[0,2,6,8,9,10,11,70]),(130908,[6,8,9,10,11]),(261820,[0,2,6,8,9,10,11,70]),(130911,[0,2,6,8,9,10,11,70,114]),(1047286,[0,2,6,8,9,10,11,70]),(523644,[0,6,8,9,10,11]),(523646,[0,2,6,8,9,10,11,70,114]),(2094575,[0,2,6,8,9,10,11,70]),(2094588,[6,8,9,10,11]),(2094590,[0,2,6,8,9,10,11,70,114]),(8378358,[6,8,9,10,11]),(8378359,[6,8,10,11]),(8378364,[0,2,6,8,9,10,11]),(8378366,[0,2,6,8,9,10,11,70,114]),(33513468,[6,8,9,10]),(33513470,[0,2,6,8,9,10,11,70,114]),(134053884,[0,2,6,8,9,10,11,70,114]),(2046,[0,2,6,8,9,10,11,70,114]),(536215542,[6,8,9,10])],[],false,1180591620717411305024,[(29,[(8,19),(9,19),(10,19),(11,19),(12,19),(13,19),(14,19),(15,19)])]⟩,⟨[(2,[0,1]),(28,[0,1]),(464,[0,1,5]),(1864,[0,1,5]),(467,[0,1,5])],[],false,0,[]⟩,⟨[(2,[0,11]),(30,[2,3,11]),(500,[4,11])],[(250,[4,11])],true,48,[]⟩,n_,⟨[(2,[0]),(14,[1]),(488,[1,6,39,40]),(7832,[1,6,39,40]),(62,[1,6]),(62670,[1,6,7,8,39,40]),(508,[1,6]),(250686,[1,6,8,10,39,40]),(4072,[1,6,128,129,130]),(1002750,[1,6,8,10,11,39,40]),(65176,[1,6,128,129,130]),(1020,[1,6]),(16295,[1,6,128,129,130]),(2044,[1,6])],[],false,1701411834604692317316873038258352685058,[]⟩]
def tb1:JD:=[⟨[(2,[0,1]),(28,[0,1,4])],[],false,16,[]⟩,n_,n_,⟨[(2,[0])],[],false,0,[]⟩,n_,⟨[(2,[0]),(208,[1,3]),(840,[1,3]),(211,[1,3])],[],false,2,[]⟩,⟨[(2,[])],[],false,1,[]⟩,⟨[(2,[0,1])],[],false,0,[]⟩,⟨[(2,[0]),(28,[0]),(232,[0,25,26,27]),(3736,[0,25,26,27]),(60,[0]),(935,[0,25,26,27]),(488,[0,73,74]),(7832,[0,73,74]),(1959,[0,73,74])],[],false,18889465931478748626944,[]⟩,⟨[(2,[0]),(1768,[3,4,22,23]),(28312,[3,4,22,23]),(226508,[]),(7079,[3,4,22,23])],[],false,8388618,[]⟩,⟨[(2,[0])],[],false,0,[]⟩,⟨[(2,[0]),(28,[0]),(232,[0,10,11,12]),(3736,[0,10,11,12]),(935,[0,10,11,12])],[],false,5152,[]⟩,⟨[(2,[0,1,2]),(104,[0,1,9,10,11]),(1688,[0,1,9,10,11]),(423,[0,1,9,10,11])],[],false,2560,[]⟩,⟨[(2,[0]),(14,[1]),(488,[1,5,20,21]),(7832,[1,5,20,21])],[],false,2097154,[]⟩,⟨[(2,[0,1,2]),(30,[2,7])],[],false,0,[]⟩,⟨[(2,[0])],[],false,0,[]⟩]
def tb2:JD:=[⟨[(2,[0])],[],false,0,[]⟩,⟨[(2,[0,1])],[],false,0,[]⟩,⟨[(2,[0,1,2]),(437,[0,1,5,8,22]),(3494,[0,1,5,8,21]),(3496,[0,1,5,8]),(6991,[0,1,5,8,21]),(3498,[0,1,5,8]),(13998,[0,1,5,8,9]),(111994,[0,1,5,8,9,11]),(111996,[1,5,9,11]),(223994,[1,5]),(223995,[1,5,9,11])],[],false,2097184,[]⟩,⟨[(2,[0,1,2,3,4,5]),(28,[0,1,2,3,4,5]),(30,[0,1,2,3,4]),(126,[0,3,13,14]),(1018,[0,3])],[],false,0,[]⟩,⟨[(2,[0])],[],false,0,[]⟩,n_,n_,n_,⟨[(2,[0,1,14,15]),(26,[2,3,4,14,15]),(1768,[3,5,14,15])],[(442,[3,5,14,15])],true,36,[]⟩,⟨[(2,[0,1,2]),(28,[0,1,2]),(30,[0,1,2])],[],false,0,[]⟩,⟨[(2,[0,1]),(28,[1,2]),(30,[1,2])],[],false,4,[]⟩,⟨[(2,[0,1])],[],false,0,[]⟩,⟨[(2,[0]),(14,[1]),(62,[1,5]),(2024,[7,33,34]),(32408,[7,33,34])],[],false,17179869186,[(7,[(0,8),(1,8)])]⟩,⟨[(2,[0,1]),(28,[0,1]),(232,[0,1,30,31,32]),(3736,[0,1,30,31,32]),(30,[0,1]),(935,[0,1,30,31,32]),(126,[0,1,8]),(4072,[10,57,58,59]),(65176,[10,57,58,59]),(16295,[10,57,58,59])],[],false,720575945747988480,[]⟩,⟨[(2,[0]),(14,[1]),(488,[1,5,19,20]),(7832,[1,5,19,20]),(125336,[1,5,6,19,20,23]),(2005400,[1,5,6,19,20,23]),(1959,[1,5,19,20]),(8021607,[1,5,6,7,8,19,20,23])],[],false,9437186,[]⟩,n_]
def tb3:JD:=[n_,n_,⟨[(2,[0]),(58,[0,3])],[],false,8,[]⟩,⟨[(2,[0,1]),(28,[0,1,4])],[],false,16,[]⟩,n_,n_,n_,n_,n_,n_,n_,⟨[(2,[0,1]),(14,[0,3]),(124,[0,3,5]),(252,[0,3,5]),(2028,[0,6]),(508,[0,3,5]),(510,[0,3,5])],[],false,1352,[(10,[(0,10)])]⟩,⟨[(2,[0,1]),(62,[0,5,6]),(508,[0,5,8,9]),(510,[0,5,9])],[],false,72,[]⟩,⟨[(2,[0,1]),(124,[0,5,6]),(126,[0,5])],[],false,0,[]⟩,⟨[(2,[0,1]),(28,[0,3]),(30,[0,3]),(252,[0,5]),(506,[0,5])],[],false,40,[(5,[(9,13)])]⟩,⟨[(4,[0,1,2]),(6,[0,1,2]),(112,[0,1,2,4]),(456,[0,1,2,4]),(115,[0,1,2,4])],[],false,0,[]⟩]
def tb4:JD:=[⟨[(2,[0]),(14,[0]),(1000,[3,4,16,17,18]),(16024,[3,4,16,17,18]),(4007,[3,4,16,17,18]),(64102,[3,4,6,16,17,18]),(256414,[3,4,6,16,17,18]),(1025662,[3,4,16,17,18])],[],false,327744,[]⟩,⟨[(2,[0,7]),(116,[3,7]),(0,[3])],[(58,[3,7]),(938,[3])],true,8,[]⟩,⟨[(2,[0])],[],false,0,[]⟩,⟨[(2,[0])],[],false,0,[]⟩,⟨[(2,[0])],[],false,2,[]⟩,⟨[(2,[0,1])],[],false,0,[]⟩,⟨[(2,[0,1]),(14,[0,1]),(62,[0,6,7])],[],false,0,[]⟩,⟨[(2,[0,1,2]),(30,[0,1,7])],[],false,0,[]⟩,⟨[(2,[0,1])],[],false,0,[]⟩,⟨[(2,[0,1,2,3]),(28,[0,1,2,3]),(1872,[1,2,3]),(470,[1,2,3,21]),(7494,[2,3]),(7536,[1,2]),(1886,[1,2,3,21]),(29982,[3]),(30150,[1,2]),(30192,[1,2,3]),(7550,[1,2,21]),(120774,[2,3]),(120816,[1,2]),(483270,[1,2])],[],false,2097152,[]⟩,⟨[(2,[0,1,26]),(28,[1,2,4,26]),(60,[1,2,4,26]),(244,[2,4,26])],[(122,[2,4,26])],true,20,[]⟩,⟨[(2,[0])],[],false,0,[]⟩,n_,n_,n_,n_]
def tb5:JD:=[n_,n_,⟨[(2,[0])],[],false,0,[]⟩,n_,n_,⟨[(2,[0])],[],false,0,[]⟩,⟨[(2,[0,1,2]),(214,[1,2,7]),(862,[1,2,7]),(3454,[1,2,7]),(13822,[1,2,7])],[],false,128,[]⟩,⟨[(2,[0,1])],[],false,0,[]⟩,⟨[(2,[0,1])],[],false,0,[]⟩,⟨[(2,[0])],[],false,0,[]⟩,⟨[(2,[0,1,2]),(28,[0,1,5]),(30,[0,1,5])],[],false,32,[]⟩,⟨[(2,[0])],[],false,0,[]⟩,n_,n_,n_,n_]
def tb6:JD:=[n_,n_,n_,n_,⟨[(2,[0])],[],false,0,[]⟩,⟨[(2,[0,1]),(24,[0,5,6,7]),(408,[0,5,6,7]),(103,[0,5,6,7])],[],false,176,[]⟩,n_,⟨[(2,[0]),(116,[0,3]),(936,[0,3,12,13]),(15000,[0,3,12,13]),(240024,[0,3,4,12,13,16]),(3840408,[0,3,4,12,13,16]),(3751,[0,3,12,13])],[],false,73728,[]⟩,n_,n_,n_,n_,n_,n_,n_,n_]
def tb7:JD:=[n_,n_,n_,⟨[(2,[0,1,15]),(28,[2,3,4,15]),(116,[2,3,4,15])],[(58,[2,3,4,15])],true,84,[]⟩,⟨[(2,[0]),(30,[0,2,4]),(4052,[0,2,4,6,7]),(4054,[0,2,4,6,7,26]),(16220,[0,2,4,6,7]),(16222,[0,2,4,6,7,26]),(254,[0,2,6,7]),(64894,[0,2,4,6,7,26]),(259580,[0,2,4,6,7]),(259582,[0,2,4,6,7,26]),(1038326,[0,2,4,6,7]),(1038327,[0,2,6,7]),(1038332,[0,2,4,6]),(1038334,[0,2,4,6,7,26]),(4153340,[0,2,4,6,7]),(16613366,[0,2,4,6])],[],false,67108948,[]⟩,⟨[(2,[0])],[],false,20,[]⟩,⟨[(2,[0,1,2]),(30,[0,5,7]),(1000,[0,5,7,10,34,35]),(16024,[0,5,7,10,34,35]),(252,[0,7,10]),(254,[0,7])],[],false,34359738400,[]⟩,⟨[(2,[0]),(30,[0,2,4]),(16002,[2,6]),(256004,[0,2,4,6,31]),(2001,[0,2,4,6]),(256006,[0,2,4,6,31]),(2004,[0,2,4,6])],[],false,2147483732,[]⟩,⟨[(2,[0,1,2]),(30,[0,1,5,7,8]),(126,[0,1,5,7,8,10]),(1020,[0,1,5,7,8,10,11]),(16342,[0,1,5,7,8,10,69]),(1022,[0,1,5,7,8,10]),(4094,[0,1,5,7,8,12]),(65524,[0,1,5,7,8,12]),(32764,[0,1,5,7,8,12,13]),(131060,[0,1,5,7,8,12,13])],[],false,590295810358705651744,[]⟩,⟨[(2,[0]),(14,[0]),(488,[3,19,20]),(7832,[3,19,20]),(125336,[3,4,19,20,24,25]),(2005400,[3,4,19,20,24,25]),(1959,[3,19,20])],[],false,34603040,[(10,[(0,9),(1,9),(2,9),(5,4),(6,4),(7,4)])]⟩,⟨[(2,[0,1,2,3]),(14,[0,1,2,3,8])],[],false,256,[]⟩,⟨[(2,[0,1,48]),(53,[2,3,27,28,48]),(422,[2,3,27,48]),(212,[2,3]),(428,[2,3,27,28]),(1694,[2,3,27,48]),(215,[2,3,27,28,48]),(1718,[2,3,27,28]),(6782,[2,3,27,48]),(860,[2,3]),(862,[2,3,27]),(6878,[2,3,27,28]),(13567,[2,3,27]),(3452,[2,3]),(3454,[2,3,27]),(13759,[2,3,27]),(13820,[2,3]),(13822,[2,3,27]),(442298,[2,3,15,16,18,19]),(55292,[2,3]),(55294,[2,3,27]),(221180,[2,3])],[],false,160466060,[]⟩,⟨[(2,[0,1]),(28,[0,1]),(232,[0,1,20,21,22]),(3736,[0,1,20,21,22]),(30,[0,1]),(935,[0,1,20,21,22]),(1000,[0,1,8,36,37,38]),(16024,[0,1,8,36,37,38]),(252,[0,1]),(128206,[0,1,8,10,11,36,37,38]),(2024,[0,73,74,75]),(4007,[0,1,8,36,37,38]),(32408,[0,73,74,75]),(259278,[0,14,15,73,74,75]),(8103,[0,73,74,75])],[],false,47223678339838936892736,[(18,[(0,12),(1,12),(2,12),(3,12),(4,12),(5,12)]),(27,[(5,4)])]⟩,⟨[(2,[0]),(14,[0]),(488,[3,27,28]),(7832,[3,27,28])],[],false,268435456,[(3,[(5,4),(5,17),(6,4),(6,17),(7,4),(7,17),(8,4),(8,17),(9,4),(10,4),(11,4),(12,4)]),(7,[(0,16),(1,16),(2,16),(3,16),(4,16)])]⟩,⟨[(2,[0,1,2]),(28,[0,1,2]),(60,[0,1,2]),(62,[0,1,2]),(508,[0,1,2,8]),(510,[0,1,2,8]),(130984,[0,1,8,9]),(130988,[0,1,2,8,9,51]),(261970,[0,1,8,9]),(130986,[1,8,9]),(65495,[0,1,2,8,9,82]),(261979,[0,1,2,8,9,51]),(261980,[0,1,2,9]),(8188,[0,1,2,8,9,82]),(8190,[1,8,9])],[],false,2251799813685760,[(28,[(1,8),(2,8)])]⟩,⟨[(2,[0,1,20]),(436,[2,5,20])],[(218,[2,5,20])],true,36,[]⟩]
def tb8:JD:=[⟨[(2,[0,1]),(28,[0,1,4]),(30,[0,1,4]),(252,[0,1,4,8]),(254,[0,1,4,8])],[],false,272,[]⟩,⟨[(2,[0,1,2,3]),(30,[0,9])],[],false,512,[(4,[(0,10)])]⟩,⟨[(2,[0,72]),(14,[0,2,72]),(488,[0,2,3,15,16,17,72]),(7832,[0,2,3,15,16,17,72]),(124,[0,2,3,72]),(31334,[0,2,3,4,15,16,17,72]),(1959,[0,2,3,15,16,17,72]),(1000,[0,2,3,44,45,72]),(16024,[0,2,3,44,45,72]),(252,[0,2,3,72]),(256408,[0,2,3,6,44,45,48,72]),(1012,[3,72]),(4072,[0,3,82,83]),(4102552,[0,2,3,6,44,45,48,72]),(4007,[0,2,3,44,45,72]),(65176,[0,3,82,83]),(0,[3,6,7]),(260710,[0,3,9,82,83]),(16295,[0,3,82,83])],[(506,[3,72]),(16410214,[3,6,7])],true,9671406557233692746612936,[]⟩,⟨[(2,[0,1])],[],false,0,[]⟩,⟨[(2,[0,1])],[],false,0,[]⟩,⟨[(2,[0,1]),(14,[0,1])],[],false,0,[]⟩,⟨[(2,[0,1])],[],false,0,[]⟩,⟨[(2,[0,1])],[],false,0,[]⟩,⟨[(2,[0,1])],[],false,0,[]⟩,⟨[(2,[0,1,2]),(30,[5,7,8])],[],false,1048576,[]⟩,⟨[(2,[0,1]),(24,[0,5,6,7]),(408,[0,5,6,7]),(103,[0,5,6,7])],[],false,176,[]⟩,n_,n_,n_,n_,n_]
def tb9:JD:=[⟨[(2,[0,1]),(24,[0,1,11,12]),(408,[0,1,11,12]),(103,[0,1,11,12])],[],false,4096,[]⟩,⟨[(2,[0,1])],[],false,0,[]⟩,⟨[(2,[0])],[],false,0,[]⟩,n_,n_,n_,n_,n_,n_,n_,n_,⟨[(2,[0])],[],false,0,[]⟩,⟨[(2,[0,1,2])],[],false,0,[]⟩,⟨[(2,[0])],[],false,0,[]⟩,n_,n_]
def bAq:JD:=[⟨[(2,[0])],[],false,0,[]⟩,⟨[(2,[0,1])],[],false,16,[]⟩,⟨[(2,[0])],[],false,4,[]⟩,⟨[(2,[0,1])],[],false,16,[]⟩,⟨[(2,[0,26]),(14,[1,2,26]),(244,[1,3,26])],[(122,[1,3,26])],true,10,[(3,[(5,4),(6,4),(7,4),(8,4),(9,4),(10,4),(11,4),(12,4)])]⟩,⟨[(2,[0,1,48]),(28,[2,3,4,5,48]),(30,[2,3,4,5,48]),(252,[2,3,4,5,6,48]),(508,[2,3,4,5,6,48]),(2036,[2,3,4,5,48]),(4092,[2,3,4,5,6,9,10]),(4094,[2,3,4,5,9,10]),(131048,[2,3,4,5,12,98,99]),(2096792,[2,3,4,5,12,98,99]),(16382,[2,3,4,5,12])],[(1018,[2,3,4,5,48])],true,633825300114114700748351606908,[(5,[(9,13)])]⟩,⟨[(2,[0])],[],false,0,[]⟩,⟨[(2,[0,1,2]),(28,[0,1,2]),(30,[0,1,2]),(998,[0,1,8])],[],false,0,[]⟩,⟨[(2,[0,1,2]),(124,[0,1,7,8]),(126,[0,1,7])],[],false,0,[]⟩,⟨[(2,[0,1,2,18,19]),(872,[5,7,18,19])],[(218,[5,7,18,19])],true,128,[]⟩,⟨[(2,[0,1,2,3]),(14,[0,1,2,3])],[],false,512,[]⟩,⟨[(2,[0,1,2,3]),(124,[0,1,9,10]),(126,[0,1,9])],[],false,0,[]⟩,⟨[(2,[0,1,2,3]),(14,[0,1,2])],[],false,2048,[]⟩,⟨[(2,[0,1,2,3,4]),(14,[0,1,2,4]),(124,[0,1,2,4,12]),(126,[0,1,2,4,12])],[],false,4096,[]⟩,⟨[(2,[0])],[],false,0,[(3,[(0,12),(1,12),(2,12),(3,12)])]⟩,⟨[(2,[0,1,2])],[],false,0,[]⟩]
def bAe:JD:=[⟨[(2,[0,1]),(52,[0,1,4]),(54,[0,1,4]),(442,[0,4,6]),(222,[0,4,6]),(28648,[0,4,6,7,8,40,41,42]),(458392,[0,4,6,7,8,40,41,42]),(3582,[0,4,7,8]),(7334292,[0,4,6,7,8,10,40,41,42]),(916787,[0,4,6,7,8,10,40,41,42])],[],false,5497558140048,[]⟩,⟨[(2,[0,1]),(28,[0,3]),(117,[0,3,11]),(934,[0,3,10]),(60,[0,3,11]),(3742,[0,3,10]),(62,[0,3]),(14974,[0,3,10]),(8104,[3,6]),(4054,[0,3,6,45]),(29951,[0,3,10]),(4053,[6]),(32440,[0,3,6]),(8111,[3,6])],[],false,35184372089864,[(14,[(0,10)])]⟩,⟨[(1,[0,1])],[],false,0,[]⟩,⟨[(2,[0]),(14,[0])],[],false,8,[]⟩,⟨[(2,[0,1]),(28,[0,3]),(232,[0,3,10,11,12]),(3736,[0,3,10,11,12]),(935,[0,3,10,11,12]),(29900,[0,3,7])],[],false,5256,[]⟩,⟨[(1,[0,1,2])],[],false,0,[]⟩,⟨[(2,[0,1]),(14,[0,1])],[],false,0,[]⟩,⟨[(0,[])],[],false,0,[]⟩,⟨[(2,[0]),(14,[0])],[],false,8,[]⟩,⟨[(2,[0,1,2]),(28,[0,1,2]),(60,[0,1,2]),(62,[0,1,2]),(508,[0,1,2,9]),(2036,[0,9]),(510,[0,1,2,9]),(4092,[0,6,7,9,10]),(8186,[0,9,10]),(8188,[0,6,7,10]),(32756,[0,6]),(8190,[0,10])],[],false,1024,[(14,[(15,22),(16,22)])]⟩,⟨[(1,[0,1,2])],[],false,0,[]⟩,⟨[(2,[0,1]),(28,[0,3]),(30,[0,3]),(1018,[0,7])],[],false,72,[]⟩,⟨[(1,[0,1,2])],[],false,0,[]⟩,⟨[(2,[0,1,2]),(28,[0,1,2]),(30,[0,1,2]),(252,[0,1,2,10]),(254,[0,1,2,10]),(4090,[0,1,10,11]),(2046,[0,1,10,11])],[],false,1024,[]⟩,⟨[(2,[0,1,2,3])],[],false,0,[]⟩,⟨[(2,[0,1,11]),(28,[2,11])],[(14,[2,11])],true,4,[]⟩]
def bA9:JD:=[⟨[(2,[0,1,22]),(52,[2,3,4,22]),(54,[2,3,4,22]),(3572,[2,3,5,6,22])],[(1786,[2,3,5,6,22])],true,108,[]⟩,⟨[(2,[0])],[],false,0,[]⟩,⟨[(2,[0,1,2])],[],false,0,[]⟩,⟨[(2,[0,1]),(28,[0,1]),(30,[0,1])],[],false,0,[]⟩,⟨[(2,[0]),(14,[0]),(488,[3,22,23]),(7832,[3,22,23])],[],false,8388608,[(3,[(0,12),(1,12),(2,12),(3,12)]),(7,[(0,16),(1,16),(2,16),(3,16),(4,16)])]⟩,⟨[(2,[0])],[],false,0,[]⟩,⟨[(2,[0])],[],false,0,[]⟩,⟨[(2,[0,1])],[],false,0,[]⟩,⟨[(2,[])],[],false,192,[]⟩,⟨[(2,[0,1,2,3]),(488,[0,1,7,9]),(124,[0,1,7,9]),(250,[0,1,9]),(252,[0,1,9])],[],false,128,[(2,[(1,10),(2,10),(2,13),(3,10),(4,10),(4,13)])]⟩,⟨[(2,[0,1,20]),(872,[0,1,5,11,12,20]),(13976,[0,1,5,11,12,20]),(3495,[0,1,5,6,11,12,20]),(447276,[0,1,5,6,7,11,12]),(223639,[0,1,5,6,11,12,20]),(894555,[0,1,5,6,11,12]),(894556,[6])],[],false,4096,[]⟩,⟨[(2,[0,1,2,3,12]),(116,[4,5,6,9,12])],[(58,[4,5,6,9,12])],true,512,[]⟩,⟨[(2,[0,1])],[],false,0,[]⟩,⟨[(2,[0,1])],[],false,0,[]⟩,⟨[(2,[0,1]),(14,[0,1]),(250,[5,6]),(252,[5,6]),(2024,[6,36,37,38]),(32408,[6,36,37,38]),(129638,[6,36,37,38]),(8103,[6,36,37,38])],[],false,343597383936,[]⟩,⟨[(2,[0,1,2]),(14,[0,1,2,6]),(124,[0,1,2,6,8]),(126,[0,1,2,6,8]),(8164,[0,2,6,8,10]),(8166,[0,1,2,6,8,10]),(1022,[0,6,10]),(32670,[0,1,6,8,10]),(65342,[0,6,8,10]),(130686,[0,1,6,8,10])],[],false,1344,[(9,[(8,12)])]⟩]
def bAk:JD:=[⟨[(2,[0,7]),(116,[3,7])],[(58,[3,7])],true,8,[]⟩,⟨[(2,[0,1])],[],false,4,[]⟩,⟨[(4,[0,1,2]),(6,[0,2]),(56,[0,2,18]),(920,[0,2,18]),(231,[0,2,18])],[],false,262144,[]⟩,n_,n_,n_,n_,n_,n_,n_,n_,n_,n_,n_,n_,n_]
def bBa:JD:=[n_,n_,n_,n_,n_,n_,n_,n_,n_,n_,n_,n_,n_,n_,⟨[(2,[0])],[],false,0,[]⟩,⟨[(2,[0,1]),(24,[0,5,6,7]),(408,[0,5,6,7]),(103,[0,5,6,7])],[],false,160,[]⟩]
def bAi:JD:=[n_,⟨[(2,[0])],[],false,0,[]⟩,⟨[(2,[0])],[],false,0,[]⟩,⟨[(2,[0])],[],false,0,[]⟩,⟨[(2,[0])],[],false,0,[]⟩,⟨[(2,[0,1])],[],false,0,[]⟩,⟨[(2,[0,1]),(28,[0,1]),(60,[0,1]),(124,[0,1]),(126,[0,1]),(510,[0,1,6])],[],false,0,[]⟩,⟨[(2,[0,1]),(60,[4,6,7])],[],false,16,[]⟩,⟨[(2,[0,1])],[],false,4,[]⟩,⟨[(2,[0,1,2,3]),(102,[0,1,2,3]),(414,[0,1,2,3]),(1662,[0,1,2,3]),(28,[0,1,2,3]),(30,[0,1,2,3]),(508,[0,1,2,3,12,13,14]),(4072,[0,1,2,3,12,13]),(510,[0,1,2,3,12]),(4074,[0,1,2,3,12,13]),(8186,[0,1,2,12]),(16302,[0,1,2,3,12,13,16])],[],false,66560,[(23,[(0,15),(1,15),(2,15),(3,15),(4,15),(5,15),(6,15),(7,15),(8,15),(9,15)])]⟩,⟨[(2,[0,1,2,3,4]),(102,[0,1,2,3,4]),(414,[0,1,3,4])],[],false,0,[]⟩,⟨[(2,[0,1])],[],false,16,[(4,[(0,5)])]⟩,⟨[(2,[0]),(28,[0])],[],false,0,[]⟩,⟨[(2,[0,1,2]),(60,[0,1,5,7,8]),(122,[0,1,5,7,8]),(124,[0,1,5,7]),(126,[1,5,7])],[],false,0,[(8,[(0,10)])]⟩,⟨[(2,[0])],[],false,0,[]⟩,⟨[(2,[0,1]),(7684,[0,3,5]),(30722,[0,3,5]),(30742,[0,3,5]),(124,[0,3,5]),(962,[0,3,5]),(484,[0,3,5]),(252,[0,3,5]),(970,[0,3,5]),(1012,[5])],[],false,8,[(9,[(0,9),(1,9),(2,9),(6,5),(7,5)]),(11,[(1,9),(2,9),(3,9)])]⟩]
def bAo:JD:=[⟨[(2,[0]),(14,[0]),(488,[3,23,24,25]),(7832,[3,23,24,25])],[],false,41943040,[(7,[(0,8),(1,8),(2,8),(3,8),(4,8)])]⟩,⟨[(2,[])],[],false,0,[]⟩,⟨[(2,[0,1])],[],false,0,[]⟩,⟨[(2,[0]),(26,[0]),(14288,[0,3,4,5,6]),(57160,[0,3,4,5,6]),(1788,[0,3,4]),(1829160,[0,3,4,5,6,7,43,44,45]),(14312,[3,4,68,69,70]),(29266584,[0,3,4,5,6,7,43,44,45]),(114323,[0,3,4,5,6,7]),(229016,[3,4,68,69,70]),(234132684,[0,3,4,5,6]),(7316647,[0,3,4,5,6,7,43,44,45]),(916070,[3,4,11,68,69,70]),(916071,[3,4,11,68,69,70])],[],false,1475739569877229243016,[]⟩,⟨[(2,[0])],[],false,0,[]⟩,⟨[(2,[0,1,2,3]),(14,[0,1,2,3,9]),(1960,[0,3,9,12,13]),(982,[3,9,13,35]),(1962,[3,9]),(7864,[3,9]),(7866,[3,9])],[],false,34359738880,[]⟩,⟨[(2,[0,1]),(26,[0,3])],[],false,0,[(3,[(0,10)])]⟩,⟨[(2,[0,1])],[],false,0,[]⟩,⟨[(2,[0,1]),(60,[0,1,5]),(976,[0,1,5,6]),(3912,[0,1,5,6]),(62,[0,5]),(31308,[0,1,5,6,7]),(979,[0,1,5,6])],[],false,128,[]⟩,⟨[(2,[0,1])],[],false,0,[]⟩,⟨[(2,[0,1]),(28,[0,1]),(30,[0,1])],[],false,0,[]⟩,⟨[(2,[0])],[],false,0,[]⟩,⟨[(2,[0])],[],false,0,[]⟩,⟨[(2,[0,1,19]),(214,[2,5,19]),(1724,[2,5,19]),(863,[2,5,14,19]),(3451,[2,5]),(6908,[2,5,14]),(3455,[2,5,14,19]),(27638,[2,5,14]),(13822,[2,5]),(55279,[2,5]),(55294,[2,5]),(221182,[2,5]),(1769464,[2])],[],false,36,[]⟩,⟨[(2,[0,1,2]),(214,[2,3,7]),(862,[2,3,7]),(3454,[2,3,7]),(13822,[2,3,7]),(55294,[2,3,7]),(221182,[2,3,7]),(1769468,[2,3,7]),(884735,[2,3,7,72]),(3538939,[2,3,7]),(3538942,[2,3,7]),(14155774,[2,3,7])],[],false,136,[]⟩,⟨[(2,[0,1,2,30]),(54,[0,2,6,30]),(444,[0,2,6,30]),(223,[0,2,6,23,30]),(891,[0,2,6]),(1788,[0,2,6,23]),(895,[0,2,6,23,30]),(7158,[0,2,6,23]),(3582,[0,2,6]),(14319,[0,2,6]),(14334,[0,2,6]),(57342,[0,2,6])],[],false,64,[]⟩]
def bA7:JD:=[⟨[(2,[0])],[],false,0,[]⟩,⟨[(2,[0])],[],false,0,[]⟩,⟨[(2,[0])],[],false,0,[]⟩,n_,⟨[(2,[0,1]),(250,[0,1,5,6,7]),(504,[5,6,7]),(2020,[5,6,7]),(2022,[5,6,7]),(8092,[5,6,7]),(8094,[5,6,7])],[],false,128,[]⟩,⟨[(2,[0,1,2]),(24,[0,1,2,9,10]),(408,[0,1,2,9,10]),(103,[0,1,2,9,10]),(1638,[0,1,2,4,9,10])],[],false,1024,[]⟩,⟨[(2,[0])],[],false,0,[]⟩,n_,n_,n_,n_,n_,n_,n_,n_,n_]
def bAc:JD:=[n_,n_,⟨[(2,[0])],[],false,0,[]⟩,⟨[(2,[0])],[],false,0,[]⟩,⟨[(2,[0])],[],false,0,[]⟩,⟨[(2,[0])],[],false,0,[]⟩,n_,n_,n_,⟨[(2,[0])],[],false,0,[]⟩,⟨[(2,[0])],[],false,2101256,[]⟩,n_,n_,⟨[(0,[])],[],false,0,[]⟩,⟨[(2,[0])],[],false,0,[]⟩,⟨[(2,[0,1]),(24,[0,5,6,7]),(408,[0,5,6,7]),(103,[0,5,6,7])],[],false,160,[]⟩]
def bAm:JD:=[⟨[(2,[0])],[],false,0,[]⟩,⟨[(2,[0])],[],false,0,[]⟩,⟨[(2,[1])],[],false,0,[]⟩,⟨[(2,[0])],[],false,0,[]⟩,⟨[(2,[0,1]),(104,[0,1,7,8]),(1688,[0,1,7,8]),(423,[0,1,7,8])],[],false,256,[]⟩,⟨[(2,[0,1])],[],false,0,[]⟩,⟨[(2,[0,1]),(52,[0,3]),(54,[0,3]),(7144,[4,5,7,29,30,31]),(114328,[4,5,7,29,30,31]),(914636,[4,8]),(28583,[4,5,7,29,30,31])],[],false,2684355080,[]⟩,⟨[(2,[0])],[],false,0,[]⟩,⟨[(2,[0,1]),(60,[0,7,8])],[],false,0,[]⟩,⟨[(2,[0,1]),(60,[4,6,7]),(62,[4,6,7])],[],false,16,[]⟩,⟨[(2,[0])],[],false,0,[]⟩,⟨[(2,[0,1,2]),(30,[0,1,2])],[],false,0,[]⟩,⟨[(2,[0])],[],false,0,[]⟩,⟨[(2,[0,1]),(14,[0,3]),(246,[0,3,6,7]),(124,[0,3,6]),(126,[0,3])],[],false,200,[(4,[(9,13)])]⟩,⟨[(2,[0,1]),(14,[0])],[],false,0,[]⟩,⟨[(2,[0,1]),(14,[0])],[],false,0,[]⟩]
def bAp:JD:=[⟨[(2,[0,1]),(14,[0,3]),(2024,[0,3,6,7,9]),(254,[0,3,6,7,9]),(1013,[0,3,6,7,9]),(1022,[0,3,6,7,9,10,11,12]),(8186,[0,3,6,7,9,10,12]),(4094,[0,3,6,7,9,10]),(65522,[0,6,7]),(131046,[0,3,6,7,10]),(262094,[0,3,6]),(262095,[0,3,6,7])],[],false,200,[(4,[(9,13)])]⟩,⟨[(1,[0,1])],[],false,0,[]⟩,⟨[(2,[0,1])],[],false,0,[]⟩,⟨[(2,[0,1,2]),(30,[0,1,2])],[],false,0,[]⟩,⟨[(2,[0,1]),(24,[0,8,9]),(408,[0,8,9]),(103,[0,8,9])],[],false,512,[]⟩,⟨[(2,[0,1]),(30,[4,6,7])],[],false,1048592,[]⟩,⟨[(4,[0,1]),(6,[0,1]),(56,[0,10,11,12]),(920,[0,10,11,12]),(231,[0,10,11,12])],[],false,5136,[]⟩,n_,n_,n_,n_,n_,n_,n_,n_,⟨[(2,[0,1]),(24,[0,5,6,7]),(408,[0,5,6,7]),(103,[0,5,6,7])],[],false,176,[]⟩]
def bAf:JD:=[⟨[(2,[0,1,7]),(52,[2,7])],[(26,[2,7])],true,4,[]⟩,⟨[(2,[0,1,2,3]),(112,[0,1,2,3,8,9]),(908,[0,1,2,3,8,9,10]),(1820,[0,1,2,3,8,9,10]),(7284,[0,1,2,3,8,9,10]),(1822,[0,1,2,3,8,9,10]),(29172,[0,1,2,3,8,9,10,11]),(14588,[0,1,2,3,8,9,10,11,12]),(58356,[0,1,2,3,8,9,10,11]),(29180,[0,1,2,3,8,9,10,11]),(116724,[0,1,2,3,8,9,11]),(29182,[0,1,2,3,10,11]),(1867772,[0,1,2,3,9,14,16,18]),(1867774,[0,1,2,3,9,14,17,18])],[],false,0,[]⟩,⟨[(2,[0,1])],[],false,0,[]⟩,⟨[(2,[0,1]),(14,[0,1]),(122,[0])],[],false,0,[]⟩,n_,n_,⟨[(2,[0,1,2]),(48,[0,1,2,6]),(200,[0,1,2,6]),(3216,[0,1,2,6,7]),(6436,[0,1,2,6,7]),(51,[0,1,2,6])],[],false,0,[(6,[(2,17),(3,17),(4,17)])]⟩,⟨[(2,[0,1,2]),(976,[0,6,7,8,9]),(1956,[0,6,7,8,9]),(62,[0,6,7,8]),(1008,[0,6,7,10]),(4040,[0,6,7,10])],[],false,0,[(10,[(2,19),(3,19),(4,19),(5,19)])]⟩,⟨[(2,[0,1,2]),(28,[0,1,6]),(1904,[0,1,6,7,8,9]),(7624,[0,1,6,7,8,9]),(61002,[0,1,6,7,8,9,10]),(15251,[0,1,6,7,8,9,10])],[],false,128,[(10,[(2,19),(3,19),(4,19),(5,19)])]⟩,⟨[(2,[0,1,2]),(4072,[0,8,9,10,11,12]),(510,[9,11]),(16292,[0,9,10,11,12]),(2037,[0,9,10,11,12]),(8182,[11,49])],[],false,562949953421824,[]⟩,⟨[(2,[0,1,2]),(112,[0,6,7]),(228,[0,6,7])],[],false,0,[(3,[(2,15),(3,15)])]⟩,⟨[(2,[0,1,2]),(464,[0,1,2,7,8]),(29824,[0,1,2,7,8]),(29826,[0,1,2,7,8]),(7460,[0,1,2,7,8]),(14924,[0,1,2,7,8]),(14926,[0,1,2,7,8]),(238836,[0,1,2,7,8]),(59710,[0,1,2,7,8]),(3821392,[0,1,2,7,8,9]),(238844,[0,1,2,7,8]),(467,[0,1,2,7,8]),(30571152,[0,1,2,7,8,9]),(3821520,[0,1,2,7,8,10]),(15285577,[0,1,2,7,8,9]),(30572176,[0,1,2,7,8,10]),(15286089,[0,1,2,7,8,10])],[],false,0,[(11,[(2,17),(3,17),(4,17)]),(17,[(2,17),(3,17),(4,17)]),(23,[(2,17),(3,17),(4,17)])]⟩,⟨[(2,[0,1])],[],false,0,[]⟩,⟨[(2,[0,1,2,3]),(7680,[0,1,9,10]),(7682,[0,1,9,10]),(15392,[0,1,9,10]),(15394,[0,1,9,10]),(3852,[0,1,9,10]),(3854,[0,1,9,10])],[],false,0,[(1,[(2,15),(3,15)]),(8,[(2,15),(3,15)])]⟩,⟨[(2,[0,1,2,3]),(480,[0,1,10,11]),(482,[0,1,10,11]),(992,[0,1,10,11]),(994,[0,1,10,11]),(252,[0,1,10,11]),(1012,[0,1,11]),(254,[0,1,10,11]),(523776,[0,1,10,11]),(523778,[0,1,10,11]),(1047584,[0,1,10,11]),(1047586,[0,1,10,11]),(261900,[0,1,10,11]),(4094,[0,1,11]),(261902,[0,1,10,11])],[],false,0,[(1,[(2,15),(3,15)]),(8,[(2,15),(3,15)]),(10,[(2,15),(3,15)]),(18,[(2,15),(3,15)]),(21,[(2,15),(3,15)])]⟩,⟨[(2,[0,1,2,3]),(48,[0,2,3,8]),(396,[0,2,3,8,9]),(794,[0,2,3,8,9]),(796,[0,2,3,8,9]),(798,[0,2,3,8,9])],[],false,0,[(6,[(4,23),(5,23),(6,23),(7,23)])]⟩]
def bBi:JD:=[⟨[(2,[0,1,2])],[],false,0,[]⟩,⟨[(2,[0,1,2,3,4])],[],false,0,[]⟩,⟨[(2,[0,1,2,3]),(52,[1,2,3])],[],false,524288,[]⟩,n_,n_,n_,n_,n_,n_,n_,n_,n_,n_,n_,n_,n_]
def bAd:JD:=[n_,n_,n_,n_,n_,n_,⟨[(2,[0,1,2]),(30,[1,3,8])],[],false,1032,[(7,[(0,13),(1,13)])]⟩,n_,n_,n_,n_,n_,n_,n_,n_,n_]
def TT:FuncId->FT:=bA6 [tb0,tb1,tb2,tb3,tb4,tb5,tb6,tb7,tb8,tb9,bAq,bAe,bA9,bAk,bBa,bAi,bAo,bA7,bAc,bAm,bAp,bAf,bBi,bAd]
abbrev Dd (f:FuncId) (i:Nat) (a:FL) (Q:Value->AH->Prop) (vs:FJ) (h:AH):Prop:=Go.Ab.D Pr K TT f i a Q vs h
def cW {f:FuncId} {args:FJ} {Q:Value->AH->Prop} {h:AH} (a:wC Pr K TT f args Q h):JL f args h Q:=Go.Ab.cW a
def rW {f:FuncId} {num m l d:Nat} {lv:FL} {vs args:FJ} {e:Nat->Value} {st:LoopState} {pd:Option Code} {Q:Value->AH->Prop} {h:AH} (c:h.get l=some (lp Pr f (qK num) m e d st pd)) (a:List.map e lv=vs)
  (g:wR0 Pr K TT f num m lv vs l args Q h):F3 Pr K (.func (.yield l) #[] #[]) args h Q:=Go.Ab.rW c a g
end Go.Proofs.Z
variable {L L' L2:IU} {b cap i l mb n o p:Nat} {Q:Value->AH->Prop} {r w:Int} {a:FM}
section
attribute [local irreducible] cC Br vZ yU Ar Jj rJ Ce qL dj lQ sJ wV wJ vF rB A6 Yn Wh W3 Wi Wj gf qN tZ nJ mM Dv O9 pX Vx cn E2 Cl F3 ga zF yL oI jF eX dO
namespace Go.Proofs.Z
open Go.Hm
variable {G:Bg} {h:AH}
variable {C:bQ}
theorem xh (k:Hs G h (aK p 0 C.enc::L)):∀(f i:Nat),i+f=7->Q (I<|C.ckF f i) h->Dd 25 1 [] Q [JM p,I 0,.agg ⟨iM⟩,I i] h:=by
 intro f;induction f with
 |zero=>
  intro i q a;exact bW (bF<|aab a)
 |succ f t=>
  intro i q a;have c:i<7:=FQ
  refine bW<|bF<|aae<|bW ?_;have j:C.enc[0+i*1]?=some (I<|C.aRa.getD i 0):=by
   have:i=0\/i=1\/i=2\/i=3\/i=4\/i=5\/i=6:=FQ
   rcases this with rfl|rfl|rfl|rfl|rfl|rfl|rfl<;>rfl
  have s:iM[i]?=some (I<|aT5.getD i 0):=by
   have:i=0\/i=1\/i=2\/i=3\/i=4\/i=5\/i=6:=FQ
   rcases this with rfl|rfl|rfl|rfl|rfl|rfl|rfl<;>rfl
  rw[bQ.ckF] at a;refine aAf c s<|kP c<|aE k j<|bF<|bG (fun e=>?_) fun e=>kP c<|aE k j<|qA<|bG (fun g=>bW ?_) fun g=>bW<|aad<|t (i+1) FQ ?_;rw[bD2<|.inl e] at a;exact a;rw[bD2<|.inr g] at a;exact a;grind
def uG (g:Ob G 0 iM) (a:Hs G h L) (f:∀e,Hs G e L->Q (I<|if C.Ok then 0 else 10) e):JL 25 [.agg ⟨C.enc⟩] h Q:=by
 refine cW<|fB a ?_;intro p h a;iterate 7 refine aA<|aE a rfl ?_
 refine aZ (c:=C.enc) rfl<|cT a ?_;intro p h a;refine an a ?_;intro h a;refine aVn a g rfl<|xh a 7 0 rfl ?_;show Q _ _;rw[bQ.aYa];exact f _ a.tail.tail
theorem uS (hC:C.Ok) (f:Ob G 0 iM) (a:Hs G h L) (e:∀c,Hs G c L->Q (I C.aF) c):JL 68 [.agg ⟨C.enc⟩] h Q:=by
 refine cW ?_;refine fB a fun p h a=>bC a FV (l:=C.enc) rfl rfl<|uG f a fun h a=>?_;rw[bD2 hC];have hb:=bQ.fF hC;refine bZ<|aab<|aA<|aE a rfl<|Hh FR ?_;show Q _ _;rw[show C.aM*2=(C.aF:Int) from hb.1.symm];exact e _ a.tail
theorem aC6 (hC:C.Ok) {l:Int} (i:Ob G 0 iM) (a:Hs G h L) (c:∀e,Hs G e L->Q (if 0<=l/\l<C.aF then .tuple ⟨[I<|l % C.bX,I 0]⟩ else .tuple ⟨[I 0,I 10]⟩) e):JL 209 [.agg ⟨C.enc⟩,I l] h Q:=by
 refine cW ?_;refine fB a fun p h a=>bF<|bG (fun f=>?_) fun f=>?_;have:=c _ a.tail;rw[aaa] at this;exact this;refine bC a FV (l:=C.enc) rfl rfl<|uS hC i a fun h a=>(fV<|bG (fun g=>?_) fun g=>?_);have:=c _ a.tail;rw[aaa] at this;exact this;have:=c _ a.tail;rw[aac] at this;exact aA<|aE a rfl<|gq FQ (by grind[bQ.Ok]) this
structure BkA where
 r:Int
 w:Int
 a:FM
 cap:Nat
def jZ (n B b o i:Nat) (mem:Nat->Ln):HP:=Cr fun x:BkA=>
 sp [aK b o [I x.r,I x.w,.slice x.a (pV n B i) x.cap],eC 2 152 x.a x.cap (pV n B i,(List.range<|pV n B i).flatMap<|fu B i mem)]
variable {B:Nat}
def C5 {mem:Nat->Ln} (c:Hs G h (jZ n B b o i mem::L)):∃r w a cap,Hs G h (aK b o [I r,I w,.slice a (pV n B i) cap]::eC 2 152 a cap (pV n B i,(List.range<|pV n B i).flatMap<|fu B i mem)::L):=by
 have⟨⟨r,w,a,cap⟩,c⟩:=c.Cc;exact⟨r,w,a,cap,c.fL⟩
def xD {mem:Nat->Ln} (c:Hs G h (aK b o [I r,I w,.slice a (pV n B i) cap]::eC 2 152 a cap (pV n B i,(List.range<|pV n B i).flatMap<|fu B i mem)::L)):Hs G h (jZ n B b o i mem::L):=
 Hs.Cq (A:=fun x:BkA=>sp [aK b o [I x.r,I x.w,.slice x.a (pV n B i) x.cap],eC 2 152 x.a x.cap (pV n B i,(List.range<|pV n B i).flatMap<|fu B i mem)]) ⟨r,w,a,cap⟩ (Hs.nS (A:=[_,_]) c)
structure MmA where
 b:Nat
 o:Nat
 cap:Nat
def gK (G:Bg) (n mb:Nat) (C:bQ) (mem:Nat->Ln):HP:=Cr fun x:MmA=>
 sp [aK mb 0<|C.enc++[.slice (some ⟨x.b,x.o,none⟩) C.bX.toNat x.cap],gQ G 3 205 (some ⟨x.b,x.o,none⟩) x.cap C.bX.toNat x.b x.o,fH C.bX.toNat fun i=>jZ n C.bX.toNat x.b (x.o+i*3) i mem]
def Af {mem:Nat->Ln} (a:Hs G h (gK G n mb C mem::L)):∃b o cap,Hs G h (aK mb 0 (C.enc++[.slice (some ⟨b,o,none⟩) C.bX.toNat cap])::gQ G 3 205 (some ⟨b,o,none⟩) cap C.bX.toNat b o::fH C.bX.toNat (fun i=>jZ n C.bX.toNat b (o+i*3) i mem)::L):=by
 have⟨⟨b,o,cap⟩,a⟩:=a.Cc;exact⟨b,o,cap,a.fL⟩
def zO {mem:Nat->Ln} (a:Hs G h (aK mb 0 (C.enc++[.slice (some ⟨b,o,none⟩) C.bX.toNat cap])::gQ G 3 205 (some ⟨b,o,none⟩) cap C.bX.toNat b o::fH C.bX.toNat (fun i=>jZ n C.bX.toNat b (o+i*3) i mem)::L)):Hs G h (gK G n mb C mem::L):=
 Hs.Cq (A:=fun x:MmA=>sp [aK mb 0<|C.enc++[.slice (some ⟨x.b,x.o,none⟩) C.bX.toNat x.cap],gQ G 3 205 (some ⟨x.b,x.o,none⟩) x.cap C.bX.toNat x.b x.o,fH C.bX.toNat fun i=>jZ n C.bX.toNat x.b (x.o+i*3) i mem]) ⟨b,o,cap⟩ (Hs.nS (A:=[_,_,_]) a)
def T5 {a c:IU} (n mb:Nat) (C:bQ) (mem:Nat->Ln) (b o cap:Nat) (e:Hs G h L) [k:fZ (aK mb 0<|C.enc++[.slice (some ⟨b,o,none⟩) C.bX.toNat cap]) L a] [f:fZ (gQ G 3 205 (some ⟨b,o,none⟩) cap C.bX.toNat b o) a L2] [g:fZ (fH C.bX.toNat fun i=>jZ n C.bX.toNat b (o+i*3) i mem) L2 c]:Hs G h (gK G n mb C mem::c):=
 zO (b:=b) (o:=o) (cap:=cap) (e.cI<|k.cI.trans<|(f.cI.trans<|g.cI.cons _).cons _)
def Bx (hC:C.Ok) (g:Ob G 0 iM) (a:Hs G h L) [m:dZ (aK mb 0) L (C.enc++[.slice (some ⟨b,o,none⟩) C.bX.toNat cap]) L'] (i:l<C.aF)
  (f:∀c,Hs G c L->Q (.tuple ⟨[pt b (o+(l % C.bX.toNat)*3) 0,I (l/C.bX.toNat:Nat),I 0]⟩) c):JL 133 [JM mb,I l] h Q:=by
 have hb:=bQ.bk hC
 refine cW<|dN<|cY<|bW<|aC<|aA<|bC a FV (l:=C.enc) rfl rfl<|aC6 hC g a fun h a=>?_
 rw[aac]
 refine aN rfl<|aN rfl<|bZ<|aab ?_
 refine bI a fun r h a=>aC<|aA<|aE a rfl ?_
 have e:(l:Int) % C.bX=((l % C.bX.toNat:Nat):Int):=by rw[<-hb.1];simp
 have e2:(l:Int)/C.bX=((l/C.bX.toNat:Nat):Int):=by rw[<-hb.1];simp
 rw[e]
 refine fK (BI _ hb.2.1)<|aC<|aA<|aA<|aE a rfl<|M4 FQ FQ (by have:=(bQ.fF hC).2;omega) ?_
 rw[e2]
 exact f _ a.tail
def aQ2 (hC:C.Ok) {mem:Nat->Ln} (s:Ob G 0 iM) (c:Hs G h L) [m:dZ (gK G C.aF mb C) L mem L'] (j:l<C.aF)
  (q:∀g,Hs G g (gK G C.aF mb C mem::L')->Q (.tuple ⟨[.agg ⟨Vw<|mem l⟩,I 0]⟩) g):JL 325 [JM mb,I l] h Q:=by
 have hb:=bQ.bk hC
 have c:=m.of c
 have⟨b,o,cap,c⟩:=Af c
 refine cW<|cT c ?_
 intro p h c
 refine Bx hC s c j fun h c=>(aN rfl<|aN rfl<|aN rfl<|bZ<|aab<|bW ?_)
 have c:=(c.bE<|fH C.bX.toNat fun i=>jZ C.aF C.bX.toNat b (o+i*3) i mem).pI (l % C.bX.toNat)<|BI _ hb.2.1
 have⟨r,w,a,cp,c⟩:=C5 c
 refine aC<|aA<|aA<|aE c rfl<|dw<|aC<|aA<|aA<|ax c fun h c=>aC<|aA<|aE c rfl ?_
 have f:=Ru hb.2.1 j
 obtain⟨k,t,rfl,H,c,e⟩:=Hs.aI1 (cm (B:=C.bX.toNat) (i:=l % C.bX.toNat) (mem:=mem)) f<|c.bE<|eC 2 152 a cp (pV C.aF C.bX.toNat _,(List.range _).flatMap _)
 rw[aJe hb.2.1] at c
 refine fK f<|bC c FV (l:=Vw _) rfl rfl ?_
 refine an c fun h c=>bC c FV rfl rfl ?_
 apply q _
 have c:=e _ _ _ rfl rfl<|c.dC (aK k _<|Vw<|mem l) H
 rw[Zx hb.2.1,zQ] at c
 exact zO (b:=b) (o:=o) (cap:=cap)<|((xD<|c.sg (b:=b) (o:=o+l % C.bX.toNat*3) rfl).tG (i:=l % C.bX.toNat) (fun i=>jZ C.aF C.bX.toNat b (o+i*3) i mem) _ (BI _ hb.2.1) fun _ _ _=>rfl).to
theorem Ut (hC:C.Ok) {mem:Nat->Ln} {v:Ln} (t:Ob G 0 iM) (e:Hs G h L) [m:dZ (gK G C.aF mb C) L mem L'] (q:l<C.aF)
  (s:∀k,Hs G k (gK G C.aF mb C (bA mem l v)::L')->Q (I 0) k):JL 137 [JM mb,I l,.agg ⟨Vw v⟩] h Q:=by
 have hb:=bQ.bk hC
 have e:=m.of e
 have⟨b,o,cap,e⟩:=Af e
 refine cW<|fB e ?_
 intro p h e
 refine Bx hC t e q fun h e=>(aN rfl<|aN rfl<|aN rfl<|bZ<|aab<|bW ?_)
 have e:=(e.bE<|fH C.bX.toNat fun i=>jZ C.aF C.bX.toNat b (o+i*3) i mem).pI (l % C.bX.toNat)<|BI _ hb.2.1
 have⟨r,w,a,cp,e⟩:=C5 e
 refine aC<|aA<|aA<|aE e rfl<|dw<|aC<|aA<|aA<|ax e ?_
 intro h e
 refine bI e fun z h e=>aC<|aA<|aE e rfl<|bC e FV rfl rfl ?_
 have g:=Ru hb.2.1 q
 obtain⟨j,x,rfl,H,e,f⟩:=Hs.aI1 (cm (B:=C.bX.toNat) (i:=l % C.bX.toNat) (mem:=mem)) g<|e.bE<|eC 2 152 a cp (pV C.aF C.bX.toNat _,(List.range _).flatMap _)
 refine fK g<|an e fun h e=>s _ ?_
 have e:=f _ _ _ rfl rfl<|(e.sg (b:=j) (o:=x+l/C.bX.toNat*2) (c:=Vw v) rfl).dC (aK j _<|Vw v) H
 rw[Zx hb.2.1] at e
 exact zO (b:=b) (o:=o) (cap:=cap)<|((xD<|e.sg (b:=b) (o:=o+l % C.bX.toNat*3) rfl).tG (i:=l % C.bX.toNat) (fun i=>jZ C.aF C.bX.toNat b (o+i*3) i mem) (fun i=>jZ C.aF C.bX.toNat b (o+i*3) i<|bA mem l v) (BI _ hb.2.1) fun i y u=>by simp_all[jZ,aJk]).to
theorem jg (hC:C.Ok) (x:∀s,Hs G s (gK G C.aF mb C uB::L)->Q (.tuple ⟨[JM mb,I 0]⟩) s):∀(f n:Nat) (h:AH) (g:HP),n+f=C.aF->Hs G h (gK G n mb C uB::aK p 0 C.enc::g::L)->
  Dd 29 2 [] Q [JM p,JM mb,I C.aF,I n] h:=by
 have hb:=bQ.bk hC
 have y:=bQ.fF hC
 intro f
 induction f with
 |zero=>
  intro n h g z e
  have:n=C.aF:=FQ
  subst this
  exact bW (bF<|aab<|x _ e.to)
 |succ f B=>
  intro n h g z e
  refine bW<|bF<|aae<|bW<|bI e ?_
  intro D h e
  have⟨b,o,cap,e⟩:=Af<|e.bE<|gK G n mb C uB
  refine aC<|aA<|aE e rfl<|aA<|aE e rfl ?_
  have t:(n:Int) % C.bX=((n % C.bX.toNat:Nat):Int):=by rw[<-hb.1];simp
  apply gq FQ FQ
  rw[t]
  have k:=BI n hb.2.1
  apply fK k
  have e:=(e.bE<|fH C.bX.toNat fun i=>jZ n C.bX.toNat b (o+i*3) i uB).pI _ k
  have⟨r,w,a,cp,e⟩:=C5 e
  refine aC<|aA<|aE e rfl<|aZ (c:=Vw (0,0)) rfl<|aZ (c:=Vw (0,0)) rfl<|eA e rfl rfl rfl ?_
  intro a3 h e
  have v:=y5 (n:=n) (i:=n % C.bX.toNat) hb.2.1
  apply yR e FQ
  intro a4 E h e
  refine aC<|aA<|ax e ?_
  intro h e
  refine aad<|B (n+1) h (sp [eC 2 152 (some a3) 1 (1,Vw (0,0)),y4 D (10,[]),g]) FQ ?_
  have q:pV (n+1) C.bX.toNat (n % C.bX.toNat)=pV n C.bX.toNat (n % C.bX.toNat)+1:=by rw[Ye k,bD2 rfl]
  have u:(List.range<|pV n C.bX.toNat<|n % C.bX.toNat).flatMap (fu C.bX.toNat (n % C.bX.toNat) uB)++Vw (0,0)=(List.range<|pV (n+1) C.bX.toNat<|n % C.bX.toNat).flatMap (fu C.bX.toNat (n % C.bX.toNat) uB):=by
   rw[q,ep,oX];rfl
  rw[u,<-q] at e
  exact(T5 (n+1) mb C uB b o cap<|(xD e).tG (fun i=>jZ n C.bX.toNat b (o+i*3) i uB) (fun i=>jZ (n+1) C.bX.toNat b (o+i*3) i uB) k fun j F A=>by simp_all[jZ,Ye,bD1]).to
def X7 (hC:C.Ok) (j:Ob G 0 iM) (e:Hs G h L) (s:∀mb f,Hs G f (gK G C.aF mb C uB::L)->Q (.tuple ⟨[JM mb,I 0]⟩) f):JL 29 [.agg ⟨C.enc⟩] h Q:=by
 have hb:=bQ.bk hC;refine cW<|fB e fun p h e=>bC e FV (l:=C.enc) rfl rfl<|uG j e fun h e=>?_;rw[bD2 hC];refine bZ<|aab<|bW<|bI e fun t h e=>bC e FV (l:=C.enc) rfl rfl<|aA<|aE e rfl<|Y6 FQ FQ FQ ?_;refine oR e rfl rfl ?_ rfl ?_ ?_;rw[kZ,xS (W:=3) fun _=>rfl];rw[kZ];exact zZ (fun _=>rfl) _;intro a h e;obtain⟨b,o,k,e⟩:=Hs.Uo (W:=3) rfl hb.2.1 e;cases k;apply aZ (c:=C.enc++[.slice _ C.bX.toNat C.bX.toNat]) rfl;refine Gw e rfl rfl fun mb h e=>bC e FV (l:=C.enc) rfl rfl<|uS hC j e fun h e=>?_;have e:=(Hs.To (g:=fun i=>jZ 0 C.bX.toNat b (o+i*3) i uB) C.bX.toNat _ (fun i q h L e=>?_)<|e.bE<|fH C.bX.toNat fun i=>aK b (o+i*3) [I 0,I 0,.slice none 0 0]);exact jg hC (s mb) C.aF 0 h _ FQ<|(T5 0 mb C uB b o C.bX.toNat e).to (M:=[gK G 0 mb C uB,aK p 0 C.enc,sp []]++L);apply xD (r:=0) (w:=0) (a:=none) (cap:=0);rw[aE9 q];exact(lF e).qS
end Go.Proofs.Z
end
variable {x:Int} {k:Value->Prop} {M:IU} {e:TypeId}
namespace Go.Proofs.Z
open Go.Is
def aU0 {g a:Nat} (e:x=(i:Int)) (f:i<n) (c:k (pt g (i*a) 0)):cC (tZ n a (.pointer<|some ⟨g,0,none⟩)<|I x) k:=by
 subst e;exact fQ (j:=0) FQ FQ (by simpa [pt] using c)
def sR {α:Type} {l:List α} (h:i<l.length):∃x,l[i]?=some x/\l.drop i=x::l.drop (i+1):=⟨l[i],FW,l7 h⟩
attribute [local irreducible] cC Br vZ yU Ar Jj rJ Ce qL dj lQ sJ wV wJ vF rB A6 Yn Wh W3 Wi Wj gf qN tZ nJ mM Dv O9 pX Vx cn E2 Cl F3 ga zF yL oI jF eX dO
variable {G:Bg} {h:AH}
theorem aBz (c:Q (.bool<|isO x) h):JL 82 [I x] h Q:=by
 refine cW<|fV<|bG (fun a=>bF ?_) fun a=>?_;show Q _ _;rwa [show decide _=isO x from BH.2 FQ];show Q _ _;simp_all[false,isO,cr]
theorem qk {mI v many:Int} (a:Q (.bool<|Ha mI v many) h):JL 86 [I mI,I v,I many] h Q:=by
 rw[Ha] at a;refine cW<|cF<|bG (fun c=>?_) fun n1=>bW<|cF<|bG (fun c=>?_) fun f=>bW<|cF<|bG (fun c=>?_) fun g=>bW<|cF<|bG (fun c=>?_) fun i=>bW<|cF<|bG (fun c=>?_) fun n5=>cF ?_;rw[bD2 c] at a;refine fV<|bG (fun e=>bF ?_) fun e=>?_;show Q _ _;grind;rwa [cr FQ] at a;rwa [bD1 n1,bD2 c] at a;rw[bD1 n1,bD1 f,bD2 c] at a;refine fV<|bG (fun e=>Ap ?_) fun e=>?_;show Q _ _;grind;rwa [cr FQ] at a;rw[bD1 n1,bD1 f,bD1 g,bD2 c] at a;refine fV<|bG (fun e=>Ap ?_) fun e=>?_;show Q _ _;grind;rwa [cr FQ] at a;rw[bD1 n1,bD1 f,bD1 g,bD1 i,bD2 c] at a;refine fV<|bG (fun e=>Ap ?_) fun e=>?_;show Q _ _;grind;rwa [cr FQ] at a;rwa [bD1 n1,bD1 f,bD1 g,bD1 i,bD1 n5] at a
def prE (p:Int×Int):FJ:=[I p.1,I p.2]
def S0 {x:iW} (a:Hs G h L) (e:∀p c,Hs G c (aK p 0 x.enc::L)->Q (.func (.func 144) #[] #[JM p]) c):JL 85 [.agg ⟨x.enc⟩] h Q:=by
 exact cW<|fB a fun p h a=>e _ _ a
theorem Wb {x:iW} (j:isO x.op=true) (D:Ob G 1 vV):Yds Pr K G 144 [] [JM p] (aK p 0 x.enc) (x.Qb.map prE):=by
 intro s J y L h Q a N z A;have F:=c8 j;refine cW<|aA<|aE a rfl<|aA<|aE a rfl<|aA<|aE a rfl<|aZ (c:=x.gy.map I) rfl ?_;have loop:∀(f i:Nat) (h:AH),i+f=3->Hs G h (aK p 0 x.enc::s ((x.Qb.drop i).map prE)::L)->Dd 144 1 [] Q [y,JM p,.agg ⟨x.gy.map I⟩,I i] h:=by
  intro f;induction f with
  |zero=>
   intro i h E a;rw[eo<|by grind[Wq]] at a;exact bW (bF<|aab<|z _ _ a)
  |succ f O=>
   intro i h E a;obtain⟨q,g,B⟩:=sR (i:=i) (by rw[Wq j];omega);rw[Mr j FQ] at g;simp only[Option.some.injEq] at g;rw[B] at a;have t:i=0\/i=1\/i=2:=FQ
   have u:(x.gy.map I)[i]?=some (I q.2):=by
    rw[<-g];rcases t with rfl|rfl|rfl<;>rfl
   refine bW<|bF<|aae<|bW<|aAf FQ u<|aA<|aE a rfl<|aU0 (i:=x.op.toNat) FQ FQ<|aA<|kP FQ<|Gt a D (aJi FQ FQ) ?_;have k:(Qd x.op.toNat).getD i 0=q.1:=by rw[<-g]
   rw[k];refine(N _ _ h _ a.qS).mono fun v w k=>?_;rcases k with⟨rfl,e⟩|⟨rfl,e⟩;exact cZ<|cY<|bW<|aad<|O (i+1) w FQ e.qS;exact cZ<|gA<|A _ _ e.qS
 exact loop 3 0 h rfl a
abbrev myX (p1 p5:Nat) (many v:Int) (e:Nat->Value) (d l:Nat) (z:LoopState×Option Code) (c:Prop):HP:=sp [Dw c,pD Pr 40 (qK 442) 22 e d l z,aK p5 0 [I many],aK p1 0 [I v]]
theorem yi {x:iW} {many:Int} (s:Ob G 1 vV) (a:Hs G h L) (c:∀i,Hs G i L->Q (I<|pK x many) i):JL 40 [.agg ⟨x.enc⟩,I many] h Q:=by
 refine cW<|fB a fun u h a=>fB a fun f h a=>aA<|aE a rfl<|aBz<|cZ<|fR<|dX (fun g=>?_) fun g=>?_;rotate_left;have:=c h a.tail.tail;rw[pK,bD1 FR] at this;exact nU this;rw[pK,bD2 g] at c;refine bW<|cT a fun p1 h a=>an a fun h a=>bC a FV (l:=x.enc) rfl rfl<|S0 a fun p h a=>nY a fun d h a=>fun e q=>rK a fun l h a=>xU rfl ?_;have a:Hs G h (aK p 0 x.enc::myX p1 f many 0 e d l (.ready,none) ((([]:List (Int×Int)).all fun p=>Ha p.1 p.2 many)=true)::mk d ()::L):=by
  refine Hs.qS<|Fy rfl<|Hs.Vy ?_;have a:=a.dV (pD Pr 40 (qK 442) 22 e d l (.ready,none)) (aK f 0 [I many])<|aK p1 0 [I 0];exact a.to
 refine(Wb g s).No (X:=fun done=>myX p1 f many 0 e d l (.ready,none)<|(done.all fun p=>Ha p.1 p.2 many)=true) (Z:=fun _ y=>myX p1 f many 10 e d l (.done,some<|.exit 0)<|Ha y.1 y.2 many=false) a ?_ ?_ ?_
 .intro done y h M k a;have⟨hd,hs1⟩:=kK a;have a:=hs1.Fc;refine rW (yJ a) q<|kV a fun h a=>aE a rfl<|qk<|cZ<|fR<|dX (fun j=>?_) fun j=>?_;refine lM a fun h a=> .inl ⟨rfl,Fy ?_<|Hs.Vy a.to⟩;grind;exact an a fun h a=>lM a fun h a=> .inr ⟨rfl,Fy j<|Hs.Vy a.to⟩
 intro v h a;have a:=a.bE<|myX p1 f many 0 e d l (.ready,none)<|(x.Qb.all fun p=>Ha p.1 p.2 many)=true;have⟨hd,hs1⟩:=kK a;have a:=hs1.Fc;rw[bD2 hd] at c;exact rD a fun h a=>rF<|aE a rfl<|qQ a fun h a=>nU<|c _ a.to
 .intro done y v h k a;have a:=a.bE<|myX p1 f many 10 e d l (.done,some<|.exit 0)<|Ha y.1 y.2 many=false;have⟨hd,hs1⟩:=kK a;have a:=hs1.Fc;rw[bD1 ?_] at c;exact K4 a fun h a=>Oh rfl<|ai p1 a rfl<|qQ a fun h a=>nU<|c _ a.to;obtain⟨w,t⟩:=k;grind
def Vi {t:Value} {p:IW} {v0 v1:Value} (q:v1=I p.length) (w:p.length<=32) (s:Ob G 1 vV) (j:∀k,Hs G k (Ge G 4 e t (p.map iW.enc)::L)->Q (.tuple ⟨[I (rI p).1,I (rI p).2]⟩) k):
  ∀(f i:Nat) (h:AH),i+f=p.length->rI p=ckF p.length (p.drop i) i->Hs G h (Ge G 4 e t (p.map iW.enc)::L)->Dd 27 2 [] Q [t,t,v1,I i] h:=by
 subst q
 intro f
 induction f with
 |zero=>
  intro i h u g a
  rw[eo FQ] at g
  rw[g] at j
  exact bW (bF<|aab<|j _ a)
 |succ f v=>
  intro i h u g a
  have⟨x,hx,hd⟩:=sR (l:=p) (i:=i) FQ
  rw[hd,ckF] at g
  have⟨ta,tc,ht⟩:=Dt a
  refine bW<|bF<|aae<|bW<|aOc a FV (x:=x.enc) (by simp[hx])<|cT a fun y h a=>(an a fun h a=>bC a FV (l:=x.enc) rfl rfl ?_)
  rw[ht]
  apply dB
  rw[<-ht,k6]
  refine yi s a fun h a=>bZ<|bG (fun c=>?_) fun c=>?_
  .rw[bD2 c] at g;rw[g] at j;exact aad<|j _ a.tail
  .rw[bD1 c] at g;exact bW<|aad<|v (i+1) h FQ g a.tail
theorem Mm {t:Value} {p:IW} (i:Ob G 1 vV) (f:Hs G h (Ge G 4 e t (p.map iW.enc)::L)) (a:∀g,Hs G g (Ge G 4 e t (p.map iW.enc)::L)->Q (.tuple ⟨[I (rI p).1,I (rI p).2]⟩) g):
  JL 27 [t] h Q:=by
 have⟨ta,tc,ht⟩:=Dt f
 have len:∀{k:Value->Prop},k _->cC (rB t) k:=fun a=>by
  rw[ht];apply dB;rwa [k6]
 refine cW<|len<|qA<|bG (fun c=>?_) fun c=>?_
 .have:=a h f;rw[rI,aac] at this;exact this
 .refine bW (len<|Vi (v0:=t) rfl FQ i a p.length 0 h FQ ?_ f);rw[rI];grind
end Go.Proofs.Z
variable {c q t:Nat} {g:Int} {z:FJ}
section
attribute [local irreducible] cC Br vZ yU Ar Jj rJ Ce qL dj lQ sJ wV wJ vF rB A6 Yn Wh W3 Wi Wj gf qN tZ nJ mM Dv O9 pX Vx cn E2 Cl F3 ga zF yL oI jF eX dO
namespace Go.Proofs.Z
open Go.Hm Go.At
variable {G:Bg} {h:AH}
variable {C:bQ}
def aCo (f:Ob G 0 iM) (a:Hs G h L) (c:∀e,Hs G e L->Q (I (if C.Ok then C.aF else 0:Nat)) e):JL 68 [.agg ⟨C.enc⟩] h Q:=by
 by_cases hC:C.Ok;rw[bD2 hC] at c;exact uS hC f a c;rw[bD1 hC] at c;refine cW ?_;refine fB a fun p h a=>bC a FV (l:=C.enc) rfl rfl<|uG f a fun h a=>?_;rw[bD1 hC];exact bZ<|aae<|c _ a.tail
theorem aFd (f:Ob G 0 iM) (a:Hs G h L) (e:∀c,Hs G c L->Q (I ((if C.Ok then C.aF else 0:Nat)*2:Nat)) c):JL 26 [.agg ⟨C.enc⟩] h Q:=by
 refine cW<|fB a fun p h a=>(bC a FV (l:=C.enc) rfl rfl<|aCo f a fun h a=>?_);have hb:(if C.Ok then C.aF else 0:Nat)<=32:=by
  split;simp_all[hC,bQ.fF];omega
 refine Hh FQ ?_;have:=e _ a.tail;rw[Int.natCast_mul] at this;exact this
theorem iu (hC:C.Ok) (c:Ob G 0 iM) (e:Hs G h L) (f:∀a,Hs G a L->Q (I (C.aF*2:Nat)) a):JL 26 [.agg ⟨C.enc⟩] h Q:=
 aFd c e FR
theorem On (hC:C.Ok) (i:Ob G 0 iM) (a:Hs G h L)
  (c:∀e,Hs G e L->Q (if 0<=w/\w<C.aF*2 then .tuple ⟨[I (w.toNat/2:Nat),I (w.toNat % 2:Nat),I 0]⟩ else .tuple ⟨[I 0,I 0,I 10]⟩) e):JL 132 [.agg ⟨C.enc⟩,I w] h Q:=by
 refine cW<|fB a fun p h a=>bF<|bG (fun f=>?_) fun f=>?_
 .have:=c _ a.tail;rw[aaa] at this;exact this
 .refine bC a FV (l:=C.enc) rfl rfl (iu hC i a fun h a=>fV<|bG (fun g=>?_) fun g=>?_)
  .have:=c _ a.tail;rw[aaa] at this;exact this
  .have hb:=(bQ.fF hC).2.2;have:=c _ a.tail;rw[aac] at this;obtain⟨n,rfl⟩:∃n:Nat,w=n:=FR;exact M4 FQ FQ FQ<|gq FQ FQ this
def ym (hC:C.Ok) (g:l<C.aF) (f:Ob G 0 iM) (a:Hs G h L)
  (e:∀c,Hs G c L->Q (.tuple ⟨[I (l/2:Nat),I 0]⟩) c):JL 134 [.agg ⟨C.enc⟩,I l] h Q:=by
 have hb:=(bQ.fF hC).2.2
 refine cW<|fB a fun p h a=>bF<|aab ?_
 exact bC a FV (l:=C.enc) rfl rfl<|uS hC f a fun h a=>fV<|aab<|M4 FQ FQ FQ<|e _ a.tail
def Kq (a:Hs G h L) (e:∀p q c,Hs G c (sp [aK p 0 C.enc,aK q 0 [I g]]::L)->Q (.func (.func 210) #[] #[JM p,JM q]) c):JL 136 [.agg ⟨C.enc⟩,I g] h Q:=
 cW (fB a fun p h a=>fB a fun q h a=>e p q h<|Hs.F6 a.qS)
def Pe (hC:C.Ok) {g:Nat} (F:(g:Int)<C.aM) (z:Ob G 0 iM):Yds Pr K G 210 [] [JM p,JM q] (sp [aK p 0 C.enc,aK q 0 [I g]]) ([g*2,g*2+1].map fun l:Nat=>[I l]):=by
 intro e J y L h Q a D s t;have hb:C.aM<=16:=hC.2.1.2;have a:=a.A7;refine cW<|bC a FV (l:=C.enc) rfl rfl<|uG z a fun h a=>?_;rw[bD2 hC];refine bZ<|aab<|aE a rfl<|bF<|aab<|aE a rfl<|aA<|aE a rfl<|fV<|aab<|bW ?_;have loop:∀(f i:Nat) (h:AH),i+f=2->Hs G h (aK p 0 C.enc::aK q 0 [I g]::e (([g*2,g*2+1].drop i).map fun l:Nat=>[I l])::L)->Dd 210 2 [] Q [y,JM q,I i] h:=by
  intro f;induction f with
  |zero=>
   intro i h w a;obtain rfl:i=2:=FQ
   exact bW (bF<|aab<|s _ _<|Hs.F6 a)
  |succ f E=>
   intro i h w a;refine bW<|bF<|aae<|bW<|aE a rfl<|Hh FQ<|aad ?_;obtain⟨x,B,u⟩:=sR (l:=[g*2,g*2+1]) (i:=i) FX;have j:i=0\/i=1:=FQ
   have ex:x=g*2+i:=by rcases j with rfl|rfl<;>simp at B<;>omega
   rw[u,k7] at a;rw[show((g:Int)*2+(i:Int))=((x:Nat):Int) by omega];refine(D _ _ h _<|a.bE<|e ([I _]::([g*2,g*2+1].drop<|i+1).map fun l:Nat=>[I l])).mono fun v k A=>?_;rcases A with⟨rfl,c⟩|⟨rfl,c⟩;exact cZ<|cY<|bW<|aad<|E (i+1) k FQ c.to;exact cZ<|gA<|t _ _<|Hs.F6 c.to
 exact loop 2 0 h rfl a
theorem Mw {o:Int} (c:Q (.bool<|decide<|0<=o/\o<=4) h):JL 146 [I o] h Q:=by
 refine cW<|fV<|bG (fun a=>Ap ?_) fun a=>?_;show Q _ _;grind;show Q _ _;grind
theorem ct {o:Int} (a:Q (.bool<|yM w o) h):JL 135 [I w,I o] h Q:=by
 unfold yM at a;refine cW<|bF<|bG (fun f=>?_) fun f=>qA<|bG (fun g=>?_) fun g=>Mw<|cZ<|fR<|bG (fun i=>?_) fun i=>?_;rw[aaa] at a;exact a;rw[aaa] at a;exact a;rw[aac] at a;refine cF<|bG (fun c=>?_) fun c=>cF<|bG (fun e=>?_) fun e=>cF ?_;rw[cj<|.inl c] at a;exact a;rw[cj<|.inr<|.inl e] at a;exact a;rw[show decide _=decide (o=4) from FR] at a;exact a;rw[aaa] at a;exact a
end Go.Proofs.Z
namespace Go.Proofs.Z
open Go.Hm Go.At Go.Mc
instance:Fx mV.enc 2:=⟨fun _=>rfl,fun _=>rfl⟩
variable {G:Bg} {h:AH}
def lZ (t:Nat) (es:JH):HP:=Cr fun x:FM×Nat=>sp [aK t 0 [.slice x.1 es.length x.2],ls mV.enc 2 165 x.1 x.2 es]
variable {es:JH}
def Lz (e:Hs G h (lZ t es::L)):∃a c,Hs G h (aK t 0 [.slice a es.length c]::ls mV.enc 2 165 a c es::L):=by
 obtain⟨⟨a,c⟩,e⟩:=e.Cc;exact⟨a,c,e.A7⟩
theorem oF (e:Hs G h (aK t 0 [.slice a es.length c]::ls mV.enc 2 165 a c es::L)):Hs G h (lZ t es::L):=
 Hs.Cq (A:=fun x:FM×Nat=>sp [aK t 0 [.slice x.1 es.length x.2],ls mV.enc 2 165 x.1 x.2 es]) (a,c) e.F6
theorem aE4 (f:Hs G h L) [m:dZ (lZ t) L es L']
  (i:∀j,Hs G j (lZ t es::L')->Q (if 0<=g/\g<es.length then .tuple ⟨[.agg ⟨(es.getD g.toNat qF).enc⟩,I 0]⟩ else .tuple ⟨[.agg ⟨qF.enc⟩,I 10]⟩) j):JL 51 [JM t,I g] h Q:=by
 obtain⟨a,c,f⟩:=Lz<|m.of f
 refine cW<|cT f fun p h f=>dN<|cY<|bW<|bF<|bG (fun k=>?_) fun k=>?_
 .rw[aaa] at i;refine aZ rfl<|an f fun h f=>bC f FV (l:=qF.enc) rfl rfl<|i _<|oF f.tail
 .refine aC (aA<|aE f rfl<|dB<|fV<|bG (fun q=>?_) fun q=>?_)
  .rw[aaa] at i;refine aZ rfl<|an f fun h f=>bC f FV (l:=qF.enc) rfl rfl<|i _<|oF f.tail
  .rw[aac] at i;refine aC<|aA<|aE f rfl<|yX (enc:=mV.enc) (e:=165) f FV FQ FR<|an f fun h f=>bC f FV (l:=(es.getD g.toNat qF).enc) rfl rfl<|i _<|oF (a:=a) (c:=c) f.to
theorem Om {x:mV} (f:Hs G h L) [m:dZ (lZ t) L es L']
  (i:∀j,Hs G j (lZ t (if(0<=g/\g<es.length)/\(0<=x.owner/\x.owner<=4) then es.set g.toNat x else es)::L')->Q (I<|if(0<=g/\g<es.length)/\(0<=x.owner/\x.owner<=4) then 0 else 10) j):JL 90 [JM t,I g,.agg ⟨x.enc⟩] h Q:=by
 obtain⟨a,c,f⟩:=Lz<|m.of f
 refine cW<|fB f fun p h f=>dN<|cY<|bW<|bF<|bG (fun k=>?_) fun k=>?_
 .rw[aaa,aaa] at i;exact i _<|oF f.tail
 .refine aC (aA<|aE f rfl<|dB<|fV<|bG (fun q=>?_) fun q=>?_)
  .rw[aaa,aaa] at i;exact i _<|oF f.tail
  .refine aA (aE f rfl<|Mw<|cZ<|fR<|bG (fun s=>bW<|bI f fun r h f=>?_) fun s=>?_)
   .rw[aac,aac] at i;refine aC<|aA<|aE f rfl<|bC f FV (l:=x.enc) rfl rfl<|aAp (e:=165) f FV FQ FQ fun h f=>i _ ?_;have:Hs G h (aK t 0 [.slice a es.length c]::ls mV.enc 2 165 a c (es.set g.toNat x)::L'):=f.to;grind[List.length_set,oF]
   .rw[aaa,aaa] at i;exact i _<|oF f.tail
def ld (hb:es.length<=16) (k:Hs G h L) [m:dZ (ls mV.enc 2 165 a c) L es L']
  (j:∀f g i,Hs G i (ls mV.enc 2 165 f g es::ls mV.enc 2 165 a c es::L')->Q (.slice f es.length g) i):JL 307 [.slice a es.length c] h Q:=
 cW (H3 (e:=165) (show Hs G h (eC 2 165 a c (es.length,eL mV.enc es)::L') from m.of k) FQ j)
def xt (hb:es.length<=16) (e:Hs G h L) [m:dZ (lZ t) L es L']
  (j:∀t' i,Hs G i (lZ t' es::lZ t es::L')->Q (JM t') i):JL 244 [JM t] h Q:=by
 obtain⟨a,c,e⟩:=Lz<|m.of e
 refine cW<|dN<|cY<|aC<|aA<|aE e rfl<|ld hb e fun f g h e=>(aZ (c:=[.slice f es.length g]) rfl<|fB e fun p h e=>j _ _ ?_)
 have e:Hs G h (aK t 0 [.slice a es.length c]::ls mV.enc 2 165 a c es::aK p 0 [.slice f es.length g]::ls mV.enc 2 165 f g es::L'):=e.to
 have e:=oF e
 exact(oF<|show Hs G h (aK p 0 _::ls mV.enc 2 165 f g es::lZ t es::L') from e.to).to
theorem Kj (n:Nat):iP [I 0,.bool false] n=eL mV.enc (List.replicate n qF):=by
 induction n with
 |zero=>rfl
 |succ n a=>rw[BR,uU,<-a];rfl
theorem aDz {n:Int} (k:1<=n/\n<=16) (f:Hs G h L) (j:∀i g,Hs G g (lZ i (List.replicate n.toNat qF)::L)->Q (.tuple ⟨[JM i,I 0]⟩) g):JL 89 [I n] h Q:=by
 refine cW<|bF<|aab<|qA<|aab<|Y6 FQ FQ FQ ?_;refine eA (n:=n.toNat) (c:=n.toNat) f (by rw[Kj,J9,List.length_replicate]) rfl (by grind[Kj,Uk]) fun a h f=>aZ (c:=[.slice _ n.toNat n.toNat]) rfl<|fB f fun p h f=>j _ _ ?_;rw[Kj] at f;have e:(List.replicate n.toNat qF).length=n.toNat:=FR;refine oF (a:=some a) (c:=n.toNat) ?_;unfold ls;rw[e];exact f
theorem Uz {n:Int} (c:0<=n/\n<=100) (e:0<=g/\g<=100) (a:Q (I<|lN n g) h):JL 322 [I n,I g] h Q:=by
 refine cW<|aad<|Ec FQ<|M4 FQ FQ FQ<|aad ?_;unfold lN at a;show Q _ _;grind
def Dj (c:0<=g/\g<16) (a:Q (.tuple ⟨[I<|g/4,I 0]⟩) h):JL 260 [I g] h Q:=
 cW (bF<|aab<|fV<|aab<|M4 FQ FQ FQ a)
def vN {a:Int} {x:mV} {b:Bool} {e:Int} (c:Hs G h (aK p 0 z::L)) (j:z.length=2) (i:∀f,Hs G f L->Q (.tuple ⟨[I a,.agg ⟨x.enc⟩,.bool b,I e]⟩) f):
  cC (Ar h 2 (JM p)<|.agg ⟨x.enc⟩) fun g=>cC (yU g 2<|JM p) fun v5=>Q (.tuple ⟨[I a,v5,.bool b,I e]⟩) g:=
 bN c (by rw[j];rfl) rfl rfl rfl fun h c=>bC c FV (l:=x.enc) rfl rfl<|i _ c.tail
end Go.Proofs.Z
end
namespace Go.Proofs.Z
open Go.Hm Go.At Go.Mc
theorem aY7 {x y:mV} (f:k (.bool<|decide<|x≠y)) {e:Bool} (hc:e=true:=by kernel_rfl):Wj e [0,1] .neq (.agg ⟨x.enc⟩) (.agg ⟨y.enc⟩) k:=by
 refine⟨hc,_,?_,f⟩;obtain⟨a,b⟩:=x;obtain⟨c,d⟩:=y;simp[Wi,xE,jy,eqn,mV.enc];grind
attribute [local irreducible] cC Br vZ yU Ar Jj rJ Ce qL dj lQ sJ wV wJ vF rB A6 Yn Wh W3 Wi Wj gf qN tZ nJ mM Dv O9 pX Vx cn E2 Cl F3 ga zF yL oI jF eX dO
variable {G:Bg} {h:AH}
def aIf {a:Nat} (e:i<n) (f:k (pt b (o+i*a) 0)):cC (qN a (.slice (some ⟨b,o,none⟩) n c)<|I i) k:=fK e f
def aDr {ws:FK} (q:ws.length<1000) (e:Hs G h L) [m:dZ (aK p 0) L [.slice a ws.length c] L'] [m2:dZ (eC 1 3 a c) L' (ws.length,ws.map I) M]
  (j:∀f g i,Hs G i (aK p 0 [.slice f (ws++[x]).length g]::eC 1 3 f g ((ws++[x]).length,(ws++[x]).map I)::M)->Q (.tuple ⟨[]⟩) i):JL 321 [I x,JM p] h Q:=by
 have e:=((m.of e).cI<|(m2.cI.cons _).trans<|List.Perm.swap _ _ _)
 refine cW<|aE e rfl<|aZ (c:=[I x]) rfl<|eA e rfl rfl rfl fun k h e=>?_
 refine yR e FQ fun f g h e=>(an e fun h e=>?_)
 have:=j f g h
 simp[AA,k7,DJ] at this
 exact this e.to
def wsR (p:Nat) (ws:FK):HP:=Cr fun x:FM×Nat=>sp [aK p 0 [.slice x.1 ws.length x.2],eC 1 3 x.1 x.2 (ws.length,ws.map I)]
def J6 {ws:FK} (k:ws.length<1000) (e:Hs G h L) [m:dZ (wsR p) L ws L'] (j:∀f,Hs G f (wsR p (ws++[x])::L')->Q (.tuple ⟨[]⟩) f):F3 Pr K (.func (.func 321) #[] #[JM p]) [I x] h Q:=by
 have⟨⟨a,c⟩,e⟩:=(m.of e).Cc;have e:=e.A7;exact vB rfl<|aDr k e fun g i h e=>j _<|Hs.Cq (g,i) e.F6
abbrev aN2 (t:Nat) (a:FM) (c:Nat) (es:JH) (p:Nat) (ws:FK) (L:IU):IU:=aK t 0 [.slice a es.length c]::ls mV.enc 2 165 a c es::wsR p ws::L
variable {es:JH}
theorem aEp (hb:es.length<=16) (z:∀s b q,Hs G s (eC 1 3 b q ((pO es).length,(pO es).map I)::lZ t es::L)->Q (.slice b (pO es).length q) s) (A:∀x∈es,0<=x.owner/\x.owner<=4):
  ∀(f i:Nat) (ws:FK) (h:AH),i+f=es.length->ws.length=i+16\/ws.length<=16+i->ws++(es.drop i).map Z6=pO es->Hs G h (aN2 t a c es p ws L)->
   Dd 259 6 [] Q [JM p,.func (.func 321) #[] #[JM p],.slice a es.length c,I es.length,I i] h:=by
 intro f
 induction f with
 |zero=>
  intro i ws h y E k g
  refine bW<|bF<|aab ?_
  rw[eo FQ,DJ,kx] at k
  subst k
  have⟨⟨b,q⟩,g⟩:=(g.bE<|wsR p<|pO es).Cc
  refine aE g.A7 rfl<|z _ _ _ ?_
  have g.A7:Hs G h (aK t 0 [.slice a es.length c]::ls mV.enc 2 165 a c es::eC 1 3 b q ((pO es).length,(pO es).map I)::L):=g.A7.to
  exact(oF g.A7).qS
 |succ f F=>
  intro i ws h y E k g
  have⟨x,hx,hd⟩:=sR (l:=es) (i:=i) FQ
  have B:=A x<|kt hx
  rw[hd,k7] at k
  refine bW<|bF<|aae<|bW<|yX (enc:=mV.enc) (e:=165) g FV FQ hx<|cT g fun J h g=>an g fun h g=>aA<|aE g rfl ?_
  have j:∀(v:Int) (h:AH),v=Z6 x->Hs G h (aK J 0 x.enc::aN2 t a c es p ws L)->F3 Pr K (.func (.func 321) #[] #[JM p]) [I v] h fun v3 w=>cC (A6 .add (I i)<|I 1) fun v4=>Dd 259 6 [] Q [JM p,.func (.func 321) #[] #[JM p],.slice a es.length c,I es.length,v4] w:=by
   intro v h D g;refine J6 FQ g fun h g=>aad<|F (i+1) (ws++[v]) h FQ FX ?_ g.to;rw[D,eh];exact k
  refine dX (fun u=>bW<|aA<|aE g rfl<|aad<|j _ h ?_ g.to) fun u=>bW<|aA<|aE g rfl<|j _ h ?_ g.to
  .rw[Z6,u];rfl
  grind[Z6]
def aD9 (es:JH) (j n:Nat):FK:=((List.range n).drop j).map<|Wf es
theorem aCw (hb:es.length<=16) (T:∀F b E,Hs G F (eC 1 3 b E ((pO es).length,(pO es).map I)::lZ t es::L)->Q (.slice b (pO es).length E) F) (N:∀x∈es,0<=x.owner/\x.owner<=4):
  ∀(f j:Nat) (ws:FK) (h:AH),j+f=(es.length+3)/4->ws.length=j->ws++aD9 es j ((es.length+3)/4)=(List.range<|(es.length+3)/4).map (Wf es)->Hs G h (aN2 t a c es p ws L)->
   Dd 259 2 [] Q [JM t,JM p,.func (.func 321) #[] #[JM p],I es.length,I (4*j:Nat)] h:=by
 intro f
 induction f with
 |zero=>
  intro j ws h S X s g
  refine bW<|bF<|aab<|bW<|aC<|aA<|aE g rfl<|dB ?_
  rw[aD9,eo FR,DJ,kx] at s
  refine aEp hb T N es.length 0 ws h FQ FQ ?_ g
  rw[ll,s];rfl
 |succ f Y=>
  intro j ws h S X s g
  have u:4*j<es.length:=FQ
  have⟨x,hx,_⟩:=sR u
  have B:es.getD (4*j) qF=x:=by rw[aP,hx];rfl
  have U:=N x<|kt hx
  have A:aD9 es j ((es.length+3)/4)=Wf es j::aD9 es (j+1) ((es.length+3)/4):=by
   unfold aD9;rw[l7 FR,EC,k7]
  rw[A] at s
  have step:∀(v:Int) (h:AH) (M:IU),v=Wf es j->[F5 M L]->Hs G h (aK t 0 [.slice a es.length c]::ls mV.enc 2 165 a c es::wsR p ws::M)->F3 Pr K (.func (.func 321) #[] #[JM p]) [I v] h fun v3 O=>cC (A6 .add (I (4*j:Nat))<|I 4) fun v4=>Dd 259 2 [] Q [JM t,JM p,.func (.func 321) #[] #[JM p],I es.length,v4] O:=by
   intro v h M W _ g;refine J6 FQ g fun h g=>aad ?_;rw[show((4*j:Nat):Int)+4=((4*(j+1):Nat):Int) by omega];refine Y _ (ws++[v]) h FQ FX ?_ g.to;rw[W,eh];exact s
  refine bW<|bF<|aae<|bW<|aC<|aA<|aE g rfl<|aK8 (enc:=mV.enc) (e:=165) g FQ (x:=x) FR rfl<|aZ (c:=(⟨x.owner,false⟩:mV).enc) rfl<|cT g fun z h g=>an g fun h g=>aC<|aA<|aE g rfl<|aad<|aVr ?_
  rw[show(if(es.length:Int)<((4*j:Nat):Int)+4 then(es.length:Int) else((4*j:Nat):Int)+4)=((min (4*j+4) es.length:Nat):Int) by grind]
  refine aQ8 (enc:=mV.enc) (e:=165) g u FQ FQ fun b o P=>?_
  subst P
  apply dB
  have V:(⟨x.owner,false⟩:mV)=⟨(es.getD (4*j) qF).owner,false⟩:=by rw[B]
  have inner:∀(f i:Nat) (h:AH),i+f=min (4*j+4) es.length - 4*j->(((es.drop<|4*j).take 4).take i).all (fun y=>decide<|y=⟨x.owner,false⟩)=true->Hs G h (aK z 0 (⟨x.owner,false⟩:mV).enc::aN2 t (some ⟨b,o,none⟩) c es p ws L)->
    Dd 259 5 [] Q [JM t,JM p,.func (.func 321) #[] #[JM p],I es.length,I (4*j:Nat),JM z,.slice (some ⟨b,o+4*j*2,none⟩) (min (4*j+4) es.length - 4*j)<|c - 4*j,I (min (4*j+4) es.length - 4*j:Nat),I i] h:=by
   intro f
   induction f with
   |zero=>
    intro i h R k g
    refine bW<|bF<|aab<|bW<|aA<|aE g rfl<|Hh FR<|step _ h (aK z 0 (⟨x.owner,false⟩:mV).enc::L) ?_ g.to
    unfold Wf O6
    rw[fm FX] at k
    grind
   |succ f D=>
    intro i h R k g
    have⟨y,hy,_⟩:=sR (l:=es) (i:=4*j+i) FQ
    refine bW<|bF<|aae<|bW<|aIf FQ ?_
    rw[show o+4*j*2+i*2=o+(4*j+i)*2 by omega]
    refine aV3 (c:=c) (enc:=mV.enc) (e:=165) g FV hy<|cT g fun Z h g=>an g fun h g=>bC g FV (l:=y.enc) rfl rfl<|bC g FV (l:=(⟨_,_⟩:mV).enc) rfl rfl<|aY7<|bG (fun J=>?_) fun J=>?_
    .refine bW (Uz FQ FQ<|Hh IM<|cE IM<|step _ h (aK Z 0 y.enc::aK z 0 (⟨x.owner,false⟩:mV).enc::L) ?_ g.to);rw[Wf,bD1];intro w;rw[O6,ux] at w;have:=w y (by
      apply kt (i:=i);grind)
     grind
    .refine bW (aad ?_);have q:(((es.drop<|4*j).take 4).take<|i+1).all (fun y=>decide<|y=⟨x.owner,false⟩)=true:=by
      rw[AP,DX,k,AU];rw[AV FQ,BJ,hy];simpa using J
     exact D (i+1) h FQ q g.to
  exact(inner (min (4*j+4) es.length - 4*j) 0 h FQ FW g.to)
theorem aEc (hb:es.length<=16) (k:∀x∈es,0<=x.owner/\x.owner<=4) (f:Hs G h L) [m:dZ (lZ t) L es L'] (j:∀i b g,Hs G i (eC 1 3 b g ((pO es).length,(pO es).map I)::lZ t es::L')->Q (.slice b (pO es).length g) i):
  JL 259 [JM t] h Q:=by
 have⟨a,c,f⟩:=Lz<|m.of f
 refine cW<|dN<|cY<|bW<|cT f fun p h f=>aC<|aA<|aE f rfl<|dB ?_
 have f:=lF (W:=1) (e:=3) f
 have f:Hs G h (aK p 0 [.slice none 0 0]::eC 1 3 none 0 (0,[])::aK t 0 [.slice a es.length c]::ls mV.enc 2 165 a c es::L'):=f.to
 have f:Hs G h (wsR p []::_):=Hs.Cq (none,0) f.F6
 exact aCw (a:=a) (c:=c) hb j k ((es.length+3)/4) 0 [] h FQ rfl (by simp[aD9]) f.to
theorem aGn (hb:es.length<=16) (j:∀x∈es,0<=x.owner/\x.owner<=4) (c:Hs G h L) [m:dZ (lZ t) L es L'] (a:∀f,Hs G f (lZ t es::L')->Q (.tuple ⟨[I (kM es x).1,I (kM es x).2]⟩) f):
  JL 182 [JM t,I x] h Q:=by
 rw[kM] at a
 refine cW<|dN<|cY<|bW<|aEc hb j c fun h b k c=>bF<|bG (fun g=>?_) fun g=>dB<|fV<|bG (fun i=>?_) fun i=>?_
 .rw[aaa] at a;exact a _ c.tail
 .rw[aaa] at a;exact a _ c.tail
 .rw[aac] at a;obtain⟨n,rfl⟩:=ay (show 0<=x by omega);refine sy (e:=3) c FR<|a _ c.tail
end Go.Proofs.Z
variable {v:Value} {f:Nat->Bool} {c' cs j:FJ} {xs:FL} {hb pm:Nat} {wa:FM}
section
attribute [local irreducible] cC Br vZ yU Ar Jj rJ Ce qL dj lQ sJ wV wJ vF rB A6 Yn Wh W3 Wi Wj gf qN tZ nJ mM Dv O9 pX Vx cn E2 Cl F3 ga zF yL oI jF eX dO
namespace Go.Proofs.Z
open Go.Hm Go.At Go.Mc
variable {G:Bg} {h:AH}
theorem aHo {n a:Int} (u:(1<=n/\n<=16)/\(0<=g/\g<n)) (v:0<=w/\w<=1000000) (i:Hs G h L)
  (c:∀t,Hs G t L->Q (.tuple ⟨[I (lU n g a w).1,.agg ⟨(lU n g a w).2.1.enc⟩,.bool (lU n g a w).2.2.1,I (lU n g a w).2.2.2]⟩) t):JL 261 [I n,I g,I a,I w] h Q:=by
 unfold lU at c
 rw[aaa] at c
 refine cW<|cT i fun p h i=>bF<|aab<|qA<|aab<|bF<|aab<|fV<|aab<|bW<|M4 FQ FQ FQ<|Uz FQ FQ<|cF<|bG (fun k=>?_) fun k=>?_
 rotate_left
 .refine bW (cF<|bG (fun f=>?_) fun f=>?_)
  .refine bW (Mw<|bG (fun j=>?_) fun j=>?_)
   .rw[bD1 k,bD2 f,bD2<|show Hv w=true from cj j] at c;exact aZ rfl<|vN i rfl c
   .refine bW (fV<|bG (fun q=>?_) fun q=>?_)
    .refine Ec FQ (Mw<|bG (fun s=>?_) fun s=>?_)
     .rw[bD1 k,bD2 f,bD1<|show ¬Hv w=true from fun e=>j<|c8 e,bD2 ⟨q,cj s⟩] at c;exact Ec FQ<|aZ rfl<|vN i rfl c
     .rw[bD1 k,bD2 f,bD1<|show ¬Hv w=true from fun e=>j<|c8 e,bD1 fun e=>s<|c8 e.2] at c;exact aZ rfl<|vN i rfl c
    .rw[bD1 k,bD2 f,bD1<|show ¬Hv w=true from fun e=>j<|c8 e,aaa] at c;exact aZ rfl<|vN i rfl c
  .rw[bD1 k,bD1 f] at c;exact aZ rfl<|vN i rfl c
 .rw[bD2 k] at c;refine bW<|Hh FQ<|Uz FQ FQ<|Hh IM<|cE IM<|cF<|bG (fun f=>?_) fun f=>?_;rotate_left;refine bW<|gq FQ FQ<|cF<|bG (fun j=>?_) fun j=>?_;refine M4 FQ FQ FQ<|Mw<|bG (fun q=>?_) fun q=>?_;rotate_left 3
  .rw[bD2 f] at c;exact aZ rfl<|vN i rfl c
  .rw[bD1 f,bD2 ⟨j,cj q⟩] at c;exact M4 FQ FQ FQ<|aZ rfl<|vN i rfl c
  .rw[bD1 f,bD1 fun e=>q<|c8 e.2] at c;exact aZ rfl<|vN i rfl c
  .rw[bD1 f,aaa] at c;exact aZ rfl<|vN i rfl c
end Go.Proofs.Z
namespace Go.Proofs.Z.H
open Go.Hm
variable {G:Bg} {h:AH}
def gI (b o:Nat) (r:bT):HP:=fun q=>∃a c,xJ [aK b o<|r.enc a c,eC 9 174 a c (r.aH.length,iK r.aH)] q
def fN {r:bT} (e:Hs G h (gI b o r::L)):∃a c,Hs G h (aK b o (r.enc a c)::eC 9 174 a c (r.aH.length,iK r.aH)::L):=by
 have⟨q,q2,⟨a,c,hq⟩,h2,h3,h4,h5⟩:=e.fst;exact⟨a,c,e.base,e.old,e.wf,e.fr,_,(mG).2 ⟨q,q2,hq,h2,h3,rfl⟩,(eJ.jB h3).2 ⟨h4,h5⟩⟩
def nO (r:bT) (f:Hs G h (aK b o (r.enc a c)::eC 9 174 a c (r.aH.length,iK r.aH)::L)):Hs G h (gI b o r::L):=
 Hs.join (A:=[_,_]) f fun _ e=>⟨a,c,e⟩
theorem Gm (c:Q (.bool<|decide<|0<=x/\x<5) h):JL 290 [I x] h Q:=by
 refine cW<|fV<|bG (fun a=>bF ?_) fun a=>?_;show Q _ _;grind;show Q _ _;grind
theorem aK5 (c:Q (.bool<|Vv x) h):JL 291 [I x] h Q:=by
 refine cW<|Gm<|bG (fun a=>bZ ?_) fun a=>?_;show Q _ _;rwa [show decide _=Vv x from by simp_all[Vv,cj,AU]];show Q _ _;rwa [show false=Vv x from by simp_all[Vv,cr,y0]]
def zc {r:bT} (e:Hs G h L) [m:dZ (gI b o) L r L'] (g:∀f,Hs G f (gI b o r.lA::L')->Q (.tuple ⟨[]⟩) f):JL 254 [pt b o 0] h Q:=by
 have⟨a,c,e⟩:=fN<|m.of e;apply cW;repeat' first
  |refine aA ?_
  |apply aC
  |(refine ax e ?_;intro h e)
  |apply aZ rfl
 exact g _<|nO r.lA e
theorem aK1 {r:bT} (h:r.owner=x):r.iC x={r with sh:=mE r.sh x false,owner:= -1}:=by simp_all[bT.iC,bD2]
theorem aH8 {r:bT} (h:¬r.owner=x):r.iC x={r with sh:=mE r.sh x false}:=by simp_all[bT.iC,bD1]
def Mo {r:bT} (e:Hs G h L) [m:dZ (gI b o) L r L'] (k:0<=x/\x<4) (f:∀j,Hs G j (gI b o (r.iC x)::L')->Q (.tuple ⟨[]⟩) j):JL 199 [pt b o 0,I x] h Q:=by
 have⟨a,c,e⟩:=fN<|m.of e;apply cW;have i:x=0\/x=1\/x=2\/x=3:=FQ
 rcases i with rfl|rfl|rfl|rfl;all_goals
  refine aC<|aA<|fQ FV FV ?_
  repeat' first
   |refine aA ?_
   |refine aC ?_
   |refine cF ?_
   |refine aE e rfl ?_
   |(refine ax e ?_;intro h e)
   |(refine bG (fun g=>?_) fun g=>?_)
  .rw[aK1 g] at f;exact f _<|nO _ e
  .rw[aH8 g] at f;exact f _<|nO _ e
theorem at4 (a:i<4) (c:k (.bool<|f i)):cC (Vx 4 1 (.agg ⟨[.bool<|f 0,.bool<|f 1,.bool<|f 2,.bool<|f 3]⟩)<|I i) k:=by
 grind[tn,Vx]
theorem xp {r:bT} (s:Hs G h (aK b o (r.enc a c)::L)):∀(f i:Nat) (t:Value),i+f=4->Q (I<|r.Az x f i) h->
  Dd 202 1 [] Q [pt b o 0,I x,I<|-1,.agg ⟨[.bool<|r.sh 0,.bool<|r.sh 1,.bool<|r.sh 2,.bool<|r.sh 3]⟩,I i,t] h:=by
 intro f
 induction f with
 |zero=>
  intro i t q g
  exact bW (bF<|aab g)
 |succ f u=>
  intro i t q g
  refine bW<|bF<|aae<|bW<|at4 FQ ?_
  have next:∀t,r.mS x i=false->Dd 202 3 [] Q [pt b o 0,I x,I<|-1,I i,.agg _,I i,t] h:=fun t v=>by
   refine bW<|aad<|u (i+1) _ FQ ?_;grind[bT.Az]
  refine cF<|bG (fun e=>next _ ?_) fun e=>bW<|dX (fun j=>bW ?_) fun j=>bW ?_
  .exact aBc e
  .rw[j];refine gA<|bW ?_;rwa [bT.Az,bD2<|wh e j] at g
  .repeat' first
    |refine aA ?_
    |apply aC
    |refine cF ?_
    |apply aE s rfl
   refine bG (fun k=>bW ?_) fun k=>next _ ?_
   .rwa [bT.Az,bD2<|xq e k] at g
   grind[aB0]
def Dj {r:bT} (e:Hs G h L) [m:dZ (gI b o) L r L'] (f:Hs G h (gI b o r::L')->Q (I<|r.first x) h):JL 202 [pt b o 0,I x] h Q:=by
 have f:=f<|m.of e;have⟨a,c,e⟩:=fN<|m.of e;apply cW;repeat' first
  |refine aA ?_
  |apply aC
  |apply bC e FV rfl rfl
 exact xp e 4 0 _ rfl f
def aE2 (b o:Nat) (r:bT):HP:=aK b o r.aBt
def Tz (b o:Nat) (r:bT):HP:=Cr fun x:FM×Nat=>sp [aK b (o+5)<|r.nk x.1 x.2,eC 9 174 x.1 x.2 (r.aH.length,iK r.aH)]
def Va {r:bT} (e:Hs G h (gI b o r::L)):Hs G h (aE2 b o r::Tz b o r::L):=by
 have⟨a,c,e⟩:=fN e;have f:Hs G h (aK b (o+5) (r.nk a c)::eC 9 174 a c (r.aH.length,iK r.aH)::aK b o r.aBt::L):=(e.split (c:=r.aBt)).cI (by
  exact(List.Perm.swap _ _ _).trans ((List.Perm.swap _ _ _).cons _))
 exact(Hs.Cq (a,c)<|Hs.nS f).cI (List.Perm.swap _ _ _)
def Xt {r:bT} (e:Hs G h (Tz b o r::L)):∃a c,Hs G h (aK b (o+5) (r.nk a c)::eC 9 174 a c (r.aH.length,iK r.aH)::L):=by
 have⟨⟨a,c⟩,e⟩:=e.Cc;exact⟨a,c,e.fL⟩
def wo (r:bT) (e:Hs G h (aK b (o+5) (r.nk a c)::eC 9 174 a c (r.aH.length,iK r.aH)::L)):Hs G h (Tz b o r::L):=
 Hs.Cq (A:=fun x:FM×Nat=>sp [aK b (o+5)<|r.nk x.1 x.2,eC 9 174 x.1 x.2 (r.aH.length,iK r.aH)]) (a,c) (Hs.nS (A:=[_,_]) e)
def Yh {r:bT} (e:Hs G h (aE2 b o r::Tz b o r::L)):Hs G h (gI b o r::L):=by
 have⟨a,c,e⟩:=Xt<|e.cI<|List.Perm.swap _ _ _;apply nO r (a:=a) (c:=c);rw[bT.aDk];exact Hs.Ra (e.cI ((List.Perm.swap _ _ _).cons _|>.trans (List.Perm.swap _ _ _))) rfl
def Xb (b o p q:Nat) (x:Int) (r:bT):HP:=sp [aE2 b o r,aK p 0 [pt b o 0],aK q 0 [I x]]
def u0 (a:Hs G h L) (e:∀p q c,Hs G c (aK p 0 [pt b o 0]::aK q 0 [I x]::L)->Q (.func (.func 277) #[] #[JM p,JM q]) c):JL 204 [pt b o 0,I x] h Q:=by
 apply cW;repeat' first
  |(apply fB a;intro p h a)
 exact e _ _ _<|a.cI<|List.Perm.swap _ _ _
theorem Zo {r:bT} {t:JF->HP} {J:HP} {y:Value}
  (P:∀z rest h M,Hs G h (t (z::rest)::M)->F3 Pr K y z h fun v a=>(v= .bool true/\Hs G a (t rest::M))\/(v= .bool false/\Hs G a (J::M)))
  (N:∀v a,Hs G a (Xb b o p q x r::t []::L)->Q v a) (E:∀v a,Hs G a (Xb b o p q x r::J::L)->Q v a):
  ∀(f i:Nat) (h:AH),i+f=4->Hs G h (Xb b o p q x r::t ((r.jV x f i).map fun(c:Nat)=>[I c])::L)->
   Dd 277 1 [] Q [y,JM p,JM q,.agg ⟨[.bool<|r.sh 0,.bool<|r.sh 1,.bool<|r.sh 2,.bool<|r.sh 3]⟩,I i] h:=by
 intro f
 induction f with
 |zero=>
  intro i h O j
  exact bW (bF<|aab<|N _ _ j)
 |succ f w=>
  intro i h O j
  refine bW<|bF<|aae<|bW<|at4 FQ ?_
  have k:=j
  have j:=j.fL
  have yes:r.mS x i=true->F3 Pr K y [I i] h fun v a=>(v= .bool true/\Hs G a _)\/(v= .bool false/\Hs G a _):=fun B=>by
   rw[bT.jV,bD2 B] at k;exact(P _ _ h _<|k.cI<|List.Perm.swap _ _ _).mono fun v a s=>(s.imp (fun e=>⟨e.1,e.2.cI<|List.Perm.swap _ _ _⟩) fun e=>⟨e.1,e.2.cI<|List.Perm.swap _ _ _⟩)
  have no:r.mS x i=false->Hs G h _:=fun B=>by
   simpa only[bT.jV,B,aO,dx] using k
  refine aE j rfl<|cF<|bG (fun u=>aad<|w (i+1) h FQ<|no<|aBc u) fun u=>cZ<|fR<|dX (fun A=>?_) fun A=>?_
  .refine(yes<|wh u A).mono fun v a s=>?_;rcases s with⟨rfl,g⟩|⟨rfl,g⟩
   .exact cZ (cY<|bW<|aad<|w (i+1) a FQ g)
   .exact cZ (gA<|E _ _ g)
  .have D:Hs G h (aK b o r.aBt::_):=j;refine aE j rfl (aC<|aA<|aE D rfl<|bZ<|bG (fun F=>?_) fun F=>?_)
   .exact bW (aad<|w (i+1) h FQ<|no<|aB0 A F)
   .refine bW ((yes<|xq u FR).mono fun v a s=>?_);rcases s with⟨rfl,g⟩|⟨rfl,g⟩
    .exact cZ (cY<|bW<|aad<|w (i+1) a FQ g)
    .exact cZ (gA<|E _ _ g)
theorem aEr {r:bT}:Yds Pr K G 277 [] [JM p,JM q] (Xb b o p q x r) ((r.iX x).map fun(c:Nat)=>[I c]):=by
 intro j J y L h Q a i f g;apply cW;have e:Hs G h (aK b o r.aBt::_):=a.fL;refine aE a.fL rfl<|aC<|aA<|bC e FV rfl rfl ?_;exact Zo i f g 4 0 h rfl a
def gW (v:Value) (l:IT):HP:=Cr fun x:FM×Nat=>sp [Dw<|v= .slice x.1 l.length x.2,eC 9 174 x.1 x.2 (l.length,iK l)]
def N4 {l:IT} (e:n=l.length) (hc:cs=iK l) (f:Hs G h (eC 9 174 a c (n,cs)::L)):Hs G h (gW (.slice a n c) l::L):=by
 subst e;subst hc;exact Hs.Cq (a,c)<|Hs.nS<|Hs.dm rfl f
def aIr {l:IT} (e:Hs G h (gW v l::L)):∃a c,v= .slice a l.length c/\Hs G h (eC 9 174 a c (l.length,iK l)::L):=by
 obtain⟨⟨a,c⟩,e⟩:=e.Cc;obtain⟨f,e⟩:=Hs.z7 e.fL;exact⟨a,c,f,e⟩
def nr {aI state:Int} {l:FL}:eT aI state (l++[i])=eT aI state l++[⟨11,i,aI,0,state,0,0,false,0⟩]:=by simp[eT,aG.zero]
theorem aUp {j:Nat} {v:Bool}:mE f i v j=if j=i then v else f j:=by
 grind[mE,Int.ofNat_inj]
theorem lj {r:bT} {l:FL}:r.iO (l++[i])={r.iO l with dQ:=mE (r.iO l).dQ i true}:=by
 simp only[bT.iO,bT.mk.injEq,true_and,and_true];grind[aUp]
def aQ5 {r:bT} {v:Bool} {k:AH->Prop} (g:Hs G h L) [m:dZ (aK b<|o+5) L (r.nk a c) L'] (j:i<4) (f:∀e,Hs G e (aK b (o+5) (({r with dQ:=mE r.dQ i v}:bT).nk a c)::L')->k e):cC (Ar h 1 (pt b o<|17+(i:Int).toNat*1)<|.bool v) k:=by
 rw[aXq (m:=5) FQ];have:i=0\/i=1\/i=2\/i=3:=FQ
 rcases this with rfl|rfl|rfl|rfl;all_goals
  refine ax (m.of g) ?_
  exact f
def prC (b o p2 p5 g f:Nat) (aI state:Int) (r:bT) (xs:FL) (e:Nat->Value) (d l:Nat) (rest:JF) (done:FL) (a:FM) (c:Nat):IU:=
 [Dw<|rest=(xs.drop done.length).map fun(c:Nat)=>[I c],Dw<|xs.take done.length=done,
    pD Pr 203 (qK 58) 26 e d l (.ready,none),aK p2 0 [pt b o 0],aK p5 0 [I aI],aK g 0 [I state],Tz b o<|r.iO done,
    aK f 0 [.slice a done.length c],eC 9 174 a c (done.length,iK<|eT aI state done)]
def prI (b o p2 p5 c a:Nat) (aI state:Int) (r:bT) (xs:FL) (e:Nat->Value) (d l:Nat) (rest:JF):HP:=
 Cr fun x:FL×FM×Nat=>sp<|prC b o p2 p5 c a aI state r xs e d l rest x.1 x.2.1 x.2.2
def aXn {p2 p5 g f:Nat} {aI state:Int} {r:bT} {e:Nat->Value} {d:Nat} {rest:JF} (done:FL) (a:FM) (c:Nat) (i:rest=(xs.drop done.length).map fun(c:Nat)=>[I c]) (j:xs.take done.length=done)
  (k:Hs G h (sp ((prC b o p2 p5 g f aI state r xs e d l rest done a c).drop 2)::L)):Hs G h (prI b o p2 p5 g f aI state r xs e d l rest::L):=
 Hs.Cq (done,a,c) (Fy i<|Fy j k)
def aRe {p2 p5 g:Nat} {aI state:Int} {r:bT} {e:Nat->Value} {d:Nat} {rest:JF} (f:Hs G h (prI b o p2 p5 i g aI state r xs e d l rest::L)):∃done a c,(rest=(xs.drop done.length).map fun(c:Nat)=>[I c])/\xs.take done.length=done/\
  Hs G h (pD Pr 203 (qK 58) 26 e d l (.ready,none)::aK p2 0 [pt b o 0]::aK p5 0 [I aI]::aK i 0 [I state]::Tz b o (r.iO done)::aK g 0 [.slice a done.length c]::eC 9 174 a c (done.length,iK<|eT aI state done)::L):=by
 obtain⟨⟨done,a,c⟩,f⟩:=Hs.Cc f
 obtain⟨j,f⟩:=kK f
 obtain⟨k,f⟩:=kK f
 exact⟨done,a,c,j,k,f.fL⟩
theorem Lr {aI state:Int} {r:bT} {g:FuncId} {A:HP} (X:Yds Pr K G g [] j A (xs.map fun(c:Nat)=>[I c])) (T:∀c∈xs,c<4) (U:xs.length<=4) (O:lX Pr g=true)
  (f:Hs G h (A::Tz b o r::L)) (P:∀v k,Hs G k (gW v (eT aI state xs)::A::Tz b o (r.iO xs)::L)->Q v k):
  JL 203 [pt b o 0,I aI,I state,.func (.func g) #[] ⟨j⟩] h Q:=by
 refine cW<|fB f fun Y h f=>fB f fun Z h f=>fB f fun p8 h f=>cT f fun w h f=>nY f fun d h f=>?_
 intro e N
 refine rK f fun l h f=>(xU O ?_)
 have f:=lF (W:=9) (e:=174) f
 have D:r.iO []=r:=by simp[bT.iO]
 have u:Hs G h (A::prI b o Y Z p8 w aI state r xs e d l (xs.map fun(c:Nat)=>[I c])::mk d ()::L):=by
  refine Hs.qS<|aXn [] none 0 rfl rfl ?_;rw[<-D] at f;simp only[prC,CU,ll,AY,eT,DJ,Xm];exact f.to
 refine X _ (Dw False) _ _ h _ u ?_ ?_ ?_
 .intro x rest h M f;obtain⟨done,a,c,q,s,S⟩:=aRe f;cases hx2:xs.drop done.length with
  |nil=>grind
  |cons i y=>
   rw[hx2] at q
   obtain⟨rfl,rfl⟩:=q
   have t:=T i<|DW<|by rw[hx2];grind
   have J:done.length<xs.length:=by
    rcases u4 done.length xs.length with h|h;exact h;grind
   obtain⟨z,c2,f⟩:=Xt<|S.cI<|fZ.cI (A:=Tz b o<|r.iO done)
   refine rW (yJ f) N<|kV f fun h f=>aE f rfl<|aC<|aA<|fQ FQ FQ ?_
   refine aQ5 f t fun h f=>aE f rfl<|aE f rfl<|aE f rfl<|aZ (c:=aG.enc _) rfl<|aZ (c:=aG.enc ⟨11,i,aI,0,_,0,0,_,0⟩) rfl ?_
   refine eA f rfl rfl rfl fun a3 h f=>yR f FQ ?_
   intro a4 B h f
   refine an f ?_
   intro h f
   refine lM f fun h f=>.inl ⟨rfl,?_⟩
   rw[<-lj] at f
   have R:(done++[i]).length=done.length+1:=FW
   have V:xs=done++i::y:=by have:=z1 done.length xs;rw[s,hx2] at this;exact this.symm
   refine aXn (done++[i]) a4 B ?_ ?_ ?_
   .simp_all
   .grind
   .simp only[prC,CU,ll,R,nr,Ej,S8,Xm,kx];exact(wo (r.iO<|done++[i])<|f.dC (aK b (o+5) _)<|eC 9 174 z c2 ((r.iO done).aH.length,iK (r.iO done).aH)).to
 .intro v k f;obtain⟨done,a,c,q,s,f⟩:=aRe f.qS;have F:xs=done:=by
   have:xs.drop done.length=[]:=by simpa using q.symm
   rw[<-s,fm<|by simpa using this]
  subst F
  refine rD f fun k f=>rF ?_
  refine aE f rfl<|qQ f fun k f=>nU<|P _ _ ?_
  have E:(eT aI state xs).length=xs.length:=by simp[eT]
  exact(N4 E.symm rfl<|f.cI<|fZ.cI (A:=eC 9 174 a c (xs.length,iK _))).to
 .intro v k f;exact(Hs.z7<|f.qS).1.elim
def sn {v:Bool} {k:AH->Prop} (r:bT) (g:Hs G h L) [m:dZ (aK b o) L c' L'] (hc:c'=r.enc a c) (i:0<=x/\x<4) (f:∀e,Hs G e (aK b o (({r with sh:=mE r.sh x v}:bT).enc a c)::L')->k e):cC (Ar h 1 (pt b o<|0+1+x.toNat*1)<|.bool v) k:=by
 subst hc;have:x=0\/x=1\/x=2\/x=3:=FQ
 rcases this with rfl|rfl|rfl|rfl;all_goals
  refine ax g ?_
  exact f
def aU6 {v:Bool} {k:AH->Prop} (r:bT) (g:Hs G h L) [m:dZ (aK b o) L c' L'] (hc:c'=r.enc a c) (i:0<=x/\x<4) (f:∀e,Hs G e (aK b o (({r with dQ:=mE r.dQ x v}:bT).enc a c)::L')->k e):cC (Ar h 1 (pt b o<|0+17+x.toNat*1)<|.bool v) k:=by
 subst hc;have:x=0\/x=1\/x=2\/x=3:=FQ
 rcases this with rfl|rfl|rfl|rfl;all_goals
  refine ax g ?_
  exact f
def mH (mb:Nat) (C:bQ) (b o cap:Nat):FJ:=[JM mb,I C.aB,I C.aM,I C.aU,I C.ways,I C.eR,I C.mU,I C.bX,.slice (some ⟨b,o,none⟩) C.aF cap]
structure HmA where
 mb:Nat
 b:Nat
 o:Nat
 cap:Nat
def aTf (G:Bg) (hb:Nat) (C:bQ) (H:nC) (x:HmA):IU:=
 [aK hb 0<|mH x.mb C x.b x.o x.cap,gK G C.aF x.mb C fun i=>(H i).2,gQ G 25 240 (some ⟨x.b,x.o,none⟩) x.cap C.aF x.b x.o,fH C.aF fun i=>gI x.b (x.o+i*25) (H i).1]
def jG (G:Bg) (hb:Nat) (C:bQ) (H:nC):HP:=Cr fun x:HmA=>sp<|aTf G hb C H x
def E8 (b o n:Nat) (H:nC) (l:Nat):HP:=sp<|((List.range n).erase l).map fun i=>gI b (o+i*25) (H i).1
variable {C:bQ}
def rH {H:nC} (a:Hs G h (jG G hb C H::L)):∃mb b o cap,Hs G h (aK hb 0 (mH mb C b o cap)::gK G C.aF mb C (fun i=>(H i).2)::gQ G 25 240 (some ⟨b,o,none⟩) cap C.aF b o::fH C.aF (fun i=>gI b (o+i*25) (H i).1)::L):=by
 have⟨⟨mb,b,o,cap⟩,a⟩:=a.Cc;exact⟨mb,b,o,cap,a.fL⟩
def Mk {H:nC} (c:l<C.aF) (a:Hs G h (jG G hb C H::L)):∃mb b o cap,Hs G h (gI b (o+l*25) (H l).1::aK hb 0 (mH mb C b o cap)::gK G C.aF mb C (fun i=>(H i).2)::gQ G 25 240 (some ⟨b,o,none⟩) cap C.aF b o::E8 b o C.aF H l::L):=by
 have⟨mb,b,o,cap,a⟩:=rH a;exact⟨mb,b,o,cap,(show Hs G h (gI b _ _::E8 b o C.aF H l::_) from((a.bE<|fH C.aF fun i=>gI b (o+i*25) (H i).1).pI l c)).to⟩
def zP {H:nC} (a:Hs G h (aK hb 0 (mH mb C b o cap)::gK G C.aF mb C (fun i=>(H i).2)::gQ G 25 240 (some ⟨b,o,none⟩) cap C.aF b o::fH C.aF (fun i=>gI b (o+i*25) (H i).1)::L)):Hs G h (jG G hb C H::L):=
 Hs.Cq (A:=fun x=>sp<|aTf G hb C H x) ⟨mb,b,o,cap⟩ (Hs.nS (A:=aTf G hb C H ⟨mb,b,o,cap⟩) a)
theorem aVx {H:nC} {x:iN}:(fun i=>(bA H l x i).2)=bA (fun i=>(H i).2) l x.2:=by
 grind[bA]
theorem gV {e f g c:IU} (hb:Nat) (C:bQ) (H:nC) (l:Nat) (r:bT) (m:Ln) (mem:Nat->Ln) (mb b o cap:Nat) (q:l<C.aF) (s:mem=bA (fun i=>(H i).2) l m) (a:Hs G h L) [u:fZ (gI b (o+l*25) r) L e] [v:fZ (aK hb 0<|mH mb C b o cap) e L2] [w:fZ (gK G C.aF mb C mem) L2 f]
  [y:fZ (gQ G 25 240 (some ⟨b,o,none⟩) cap C.aF b o) f g] [z:fZ (E8 b o C.aF H l) g c]:Hs G h (jG G hb C (bA H l (r,m))::c):=by
 subst s
 have a:Hs G h (gI b (o+l*25) r::E8 b o C.aF H l::aK hb 0 (mH mb C b o cap)::gK G C.aF mb C (bA (fun i=>(H i).2) l m)::gQ G 25 240 (some ⟨b,o,none⟩) cap C.aF b o::c):=
  (a.cI<|u.cI.trans<|(v.cI.trans<|(w.cI.trans<|(y.cI.trans<|z.cI.cons _).cons _).cons _).cons _).to
 have k:(fun i=>gI b (o+i*25) (bA H l (r,m) i).1) l=gI b (o+l*25) r:=by simp[dI]
 rw[<-k] at a
 rw[E8] at a
 have a:=a.tG (fun i=>gI b (o+i*25) (H i).1) (fun i=>gI b (o+i*25) (bA H l (r,m) i).1) q fun j _ t=>by grind[bO]
 rw[<-aVx (x:=(r,m))] at a
 exact zP (mb:=mb) (b:=b) (o:=o) (cap:=cap) a.to
def K2 {a:Addr} {n:aG} (hc:cs=n.enc) (c:Hs G h (eC 9 174 (some a) 1 (1,cs)::L)):Hs G h (gW (.slice (some a) 1 1) [n]::L):=N4 rfl (by rw[hc];simp) c
def wU (a:Hs G h L):Hs G h (gW (.slice none 0 0) []::L):=N4 rfl rfl<|lF a
section
variable {r:bT} {wc:Nat} {aI:Int} {d:Ln}
def gF (b o:Nat) (r:bT) (a:FM) (c:Nat) {f:IU} (i:Hs G h L) [m:dZ (aK b o) L c' f] (hc:c'=r.enc a c) [m2:dZ (eC 9 174 a c) f (n,cs) L2] (g:n=r.aH.length) (e:cs=iK r.aH):Hs G h (gI b o r::L2):=by
 subst hc g;subst e;exact nO r<|i.cI<|m.cI.trans<|m2.cI.cons _
def aQ7 (e:r.aX.kind=2) (c:Hs G h (aK p 0 (r.oT aI 0 d).enc::aK b o (r.enc wa wc)::eC 9 174 wa wc (r.aH.length,iK r.aH)::L)) (g:∀v f,Hs G f (gW v (r.dW aI d).2::gI b o (r.dW aI d).1::L)->Q v f):
  Dd 276 3 [] Q [pt b o 0,I r.aX.core,JM p] h:=by
 simp[bT.dW,bD2 e] at g
 apply bW
 repeat' first
  |apply aA
  |refine aC ?_
  |refine bC c FV rfl rfl ?_
  |(refine ax c ?_;intro h c)
  |(refine eA c rfl rfl rfl ?_;intro a h c)
  |apply aZ rfl
 apply g _ _
 exact(gF b o {r with owner:=r.aX.core,sh:=fun _=>false,cJ:=true} wa wc (K2 (n:=r.oT aI 4 d) rfl c) rfl rfl rfl).to
def aPf (g:r.aX.kind≠2) (hc:0<=r.aX.core/\r.aX.core<4) (c:Hs G h (aK p 0 (r.oT aI 0 d).enc::aK b o (r.enc wa wc)::eC 9 174 wa wc (r.aH.length,iK r.aH)::L)) (e:∀v i,Hs G i (gW v (r.dW aI d).2::gI b o (r.dW aI d).1::L)->Q v i):
  Dd 276 4 [] Q [pt b o 0,I r.aX.core,JM p] h:=by
 simp[bT.dW,bD1 g] at e
 have c:=gF b o r wa wc c rfl rfl rfl
 refine bW<|Dj c fun c=>?_
 have⟨wa,wc,c⟩:=fN c
 refine cF<|bG (fun f=>?_) fun f=>?_
 .rw[bD2 f] at e;refine bW<|aA<|ax c fun h c=>aC<|aA<|ax c ?_;intro h c;refine aC<|aA<|fQ hc.1 hc.2<|sn {r with owner:=r.aX.core} c rfl hc ?_;intro h c;repeat' first
   |refine aA ?_
   |apply aC
   |refine bC c FV rfl rfl ?_
   |(refine ax c ?_;intro h c)
   |(refine eA c rfl rfl rfl ?_;intro a h c)
   |apply aZ rfl
  apply e _ _
  exact(gF b o {r with owner:=r.aX.core,sh:=mE r.sh r.aX.core false,cJ:=true} wa wc (K2 (n:=r.oT aI 2 d) rfl c) rfl rfl rfl).to
 .rw[bD1 f] at e;refine bW<|aA<|ax c fun h c=>aC<|aA<|fQ hc.1 hc.2<|sn r c rfl hc ?_;intro h c;repeat' first
   |refine aA ?_
   |apply aC
   |refine bC c FV rfl rfl ?_
   |(refine ax c ?_;intro h c)
   |(refine eA c rfl rfl rfl ?_;intro a h c)
   |apply aZ rfl
  apply e _ _
  exact(gF b o {r with sh:=mE r.sh r.aX.core true,cJ:=true} wa wc (K2 (n:=r.oT aI 1 d) rfl c) rfl rfl rfl).to
end
def hJ {H:nC}:bA (fun i=>(H i).2) l (H l).2=fun i=>(H i).2:=zQ
theorem Na (hC:C.Ok) {H:nC} (j:Ob G 0 iM) (a:Hs G h L) [m:dZ (jG G hb C) L H L'] (q:l<C.aF) (hc:0<=(H l).1.aX.core/\(H l).1.aX.core<4)
  (u:∀v e,Hs G e (gW v ((H l).1.dW l<|(H l).1.yV (H l).2).2::jG G hb C (bA H l (((H l).1.dW l<|(H l).1.yV (H l).2).1,(H l).2))::L')->Q v e):
  JL 276 [JM hb,I l] h Q:=by
 have⟨mb,b,o,cap,a⟩:=Mk q<|m.of a
 apply cW
 have k:∀d,d=(H l).1.yV (H l).2->∀p wa wc h,Hs G h (aK p 0 ((H l).1.oT l 0 d).enc::aK b (o+l*25) ((H l).1.enc wa wc)::eC 9 174 wa wc ((H l).1.aH.length,iK (H l).1.aH)::aK hb 0 (mH mb C b o cap)::gK G C.aF mb C (fun i=>(H i).2)::gQ G 25 240 (some ⟨b,o,none⟩) cap C.aF b o::E8 b o C.aF H l::L')->
   (((H l).1.aX.kind=2->Dd 276 3 [] Q [pt b (o+l*25) 0,I (H l).1.aX.core,JM p] h)/\((H l).1.aX.kind≠2->Dd 276 4 [] Q [pt b (o+l*25) 0,I (H l).1.aX.core,JM p] h)):=by
  intro d t p wa wc h a
  subst t
  have g:∀v e,Hs G e (gW v ((H l).1.dW l<|(H l).1.yV (H l).2).2::gI b (o+l*25) ((H l).1.dW l<|(H l).1.yV (H l).2).1::aK hb 0 (mH mb C b o cap)::gK G C.aF mb C (fun i=>(H i).2)::gQ G 25 240 (some ⟨b,o,none⟩) cap C.aF b o::E8 b o C.aF H l::L')->Q v e:=fun v e a=>
   u v e (gV hb C H l ((H l).1.dW l<|(H l).1.yV (H l).2).1 _ _ mb b o cap q hJ.symm a).to
  exact⟨fun f=>aQ7 f a g,fun f=>aPf f hc a g⟩
 have⟨wa,wc,a⟩:=fN a
 refine aC<|aA<|aE a rfl<|fK q<|aC<|aA<|aA<|aE a rfl<|bI a ?_
 intro w h a
 refine aC<|aA<|aE a rfl<|aC<|aA<|bC a FV (l:=[I _,I _]) rfl rfl<|aZ (c:=((H l).1.oT l 0 ((H l).1.d0,(H l).1.d1)).enc) rfl<|nI a rfl rfl ?_
 intro p h a
 refine an a fun h a=>aC<|aA<|aE a rfl<|cZ<|fR<|dX (fun s=>?_) fun s=>?_
 .refine bW (aC<|aA<|aA<|aE a rfl<|cF ?_);have:=k ((H l).1.d0,(H l).1.d1) (by simp[bT.yV,s]) p wa wc h a.to;exact bG this.1 this.2
 .refine bW (aC<|aA<|aE a rfl<|aQ2 hC j a q fun h a=>?_);refine aN rfl<|aN rfl<|aA<|ax a fun h a=>aC<|aA<|aA<|aE a rfl<|cF ?_;have:=k (H l).2 (by simp[bT.yV,s]) p wa wc h (a.sg (b:=p) (o:=0) (c:=((H l).1.oT l 0 (H l).2).enc) rfl).to;exact bG this.1 this.2
def Ug (e:TypeId) (p:Nat) (a:FM) (c:Nat) (xs:FK):HP:=sp [aK p 0 [.slice a xs.length c],eC 1 e a c (xs.length,xs.map I)]
def Pb {xs:FK} (j:n=xs.length) (f:Hs G h L) [m:dZ (eC 1 e a c) L (n,xs.map I) L'] (i:∀p g,Hs G g (Ug e p a c xs::L')->Q (.func (.func 303) #[] #[JM p]) g):JL 241 [.slice a n c] h Q:=by
 subst j;have f:=m.of f;exact cW<|fB f fun p h f=>i p _<|Hs.nS f
def Hb {xs:FK} (D:xs.length<2^62):Yds Pr K G 303 [] [JM p] (Ug e p a c xs) (xs.map fun x=>[I x]):=by
 intro q J y L h Q g A t u;refine cW<|aE g.fL rfl<|dB ?_;have loop:∀(f i:Nat) (h:AH),i+f=xs.length->Hs G h (Ug e p a c xs::q ((xs.drop i).map fun x=>[I x])::L)->Dd 303 1 [] Q [y,.slice a xs.length c,I xs.length,I i] h:=by
  intro f;induction f with
  |zero=>
   intro i h w g;refine bW<|bF<|aab ?_;rw[BD FQ] at g;exact t _ _ g
  |succ f B=>
   intro i h w g;have j:i<xs.length:=FQ
   refine bW<|bF<|aae<|bW ?_;obtain⟨b,o,rfl,H,k,_⟩:=(g.fL.bE<|eC 1 e a c (xs.length,xs.map I)).vA FQ;refine fK j (aS1 k (v:=I xs[i]) (by simp[j]) ?_);rw[l7 j] at g;refine(A _ _ h _ g.qS).mono fun v s z=>?_;rcases z with⟨rfl,g⟩|⟨rfl,g⟩;exact cZ<|cY<|bW<|aad<|B (i+1) s FQ g.qS;exact cZ<|gA<|u _ _ g.qS
 exact loop xs.length 0 h FQ g
variable {H:nC} {n:aG} {r:bT} {m:Ln}
def yB (G:Bg) (hb p mb b o cap l:Nat) (C:bQ) (H:nC) (n:aG) (r:bT) (m:Ln):IU:=
 [gI b (o+l*25) r,aK p 0 n.enc,aK hb 0<|mH mb C b o cap,gK G C.aF mb C<|bA (fun i=>(H i).2) l m,gQ G 25 240 (some ⟨b,o,none⟩) cap C.aF b o,E8 b o C.aF H l]
theorem tf (hC:C.Ok) (e:Ob G 0 iM) (i:l<C.aF) (j:n.aI=l) (hc:0<=r.aX.core/\r.aX.core<4) (q:r.kI=true) (a:Hs G h (yB G hb p mb b o cap l C H n r m++L))
  (c:∀v k,Hs G k (gW v (r.rest l m).2::jG G hb C (bA H l ((r.rest l m).1,m))::L)->Q v k):Dd 255 7 [] Q [JM hb,JM p,pt b (o+l*25) 0] h:=by
 simp only[yB,gg,hT] at a
 simp only[bT.rest,bD2 q] at c
 have f:=a
 obtain⟨wa,wc,a⟩:=fN<|show Hs G h _ from a
 refine bW<|aC<|aA<|aA<|aE a rfl<|cF<|bG (fun g=>?_) fun g=>?_
 .rw[bD2 g] at c;exact bW<|zc f fun h a=>c _ _<|(wU<|gV hb C H l r.lA m _ mb b o cap i rfl a).to
 .rw[bD1 g] at c;refine aA<|aE a rfl ?_;rw[j];have a:=gV hb C H l r m _ mb b o cap i rfl f;refine Na hC e a i (by grind[dI]) fun v h a=>c _ _ ?_;simp only[dI,Al] at a;exact a.to
theorem xb (hC:C.Ok) (c:Ob G 0 iM) (q:l<C.aF) (i:n.aI=l) (hc:0<=r.aX.core/\r.aX.core<4) (a:Hs G h (yB G hb p mb b o cap l C H n r m++L))
  (g:∀v k,Hs G k (gW v (r.rest l m).2::jG G hb C (bA H l ((r.rest l m).1,m))::L)->Q v k):Dd 255 4 [] Q [JM hb,JM p,pt b (o+l*25) 0] h:=by
 have e:=a
 simp only[yB,gg,hT] at a
 have j:=a
 obtain⟨wa,wc,a⟩:=fN<|show Hs G h _ from a
 refine bW<|aC<|aA<|bC a FV (l:=[.bool _,.bool _,.bool _,.bool _]) rfl rfl<|aZ rfl<|aIu<|dX (fun f=>?_) fun f=>?_
 .have f:r.kI=false:=by unfold bT.kI;rw[f];rfl
  simp only[bT.rest,f,aO,dx] at g
  exact g _ _<|(wU<|gV hb C H l r m _ mb b o cap q rfl<|show Hs G h _ from j).to
 .exact tf hC c q i hc (by grind[bT.kI]) e g
end Go.Proofs.Z.H
namespace Go.Proofs.Z
open Go.Hm Go.At Go.Mc
def Qt:Mc.mP:=⟨0,0,0,0,0,0,false,0,fun _=>false⟩
def Hg (r:Mc.mP):FJ:=[I r.core,I r.aY,I r.call,I r.aR,I r.to]
def zC (r:Mc.mP):FJ:=[I r.core,I r.aY,I r.call,I r.aR,I r.to,I r.kB,.bool r.oD]
def oJ (f:Nat->Option Mc.mP) (k:Nat):FN:=(f k).map fun r=> .agg ⟨r.enc⟩
theorem Nx {f:Nat->Option Mc.mP} {g:Nat} {x:Option Mc.mP}:T7 (oJ f) g (x.map fun r=> .agg ⟨r.enc⟩)=oJ (bA f g x):=by
 grind[T7,oJ,bA]
variable {m:Mon}
theorem aDn:Jt (oJ m.eI)=m.fO:=by
 grind[Jt,Mon.fO,oJ]
theorem aL4:(if 0<=g then oJ m.eI g.toNat else none)=(m.run g).map fun r=>Value.agg ⟨r.enc⟩:=by
 grind[Mon.run,oJ]
variable {G:Bg} {h:AH} {C:bQ}
def jL (C:bQ) (p:Nat) (m:Mon):HP:=Cr fun x:Nat×Nat=>sp [aK p 0 [JM x.1,I C.aB,lC x.2],lZ x.1 m.eU,qX x.2<|oJ m.eI]
def oM (a:Hs G h (jL C p m::L)):∃t b,Hs G h (aK p 0 [JM t,I C.aB,lC b]::lZ t m.eU::qX b (oJ m.eI)::L):=by
 obtain⟨⟨t,b⟩,a⟩:=a.Cc;exact⟨t,b,a.Fc⟩
theorem fU (a:Hs G h (aK p 0 [JM t,I C.aB,lC b]::lZ t m.eU::qX b (oJ m.eI)::L)):Hs G h (jL C p m::L):=
 Hs.Cq (A:=fun x:Nat×Nat=>sp [aK p 0 [JM x.1,I C.aB,lC x.2],lZ x.1 m.eU,qX x.2<|oJ m.eI]) (t,b) a.Vy
theorem W2 (c:Hs G h L) [e:dZ (qX b) L (oJ m.eI) L'] (a:k (.agg ⟨((m.run g).getD Qt).enc⟩)):cC (lkV (.agg ⟨[I 0,I 0,I 0,I 0,I 0,I 0,.bool false,I 0,.bool false,.bool false,.bool false,.bool false]⟩) h (lC b) (I g) false) k:=by
 refine bAr c ?_;rw[aL4];cases hr:m.run g with
 |none=>rw[hr] at a;exact a
 |some r=>grind
theorem aEf:((m.run g).getD Qt).phase=m.phase g:=by
 unfold Mon.phase;cases m.run g<;>rfl
theorem Vh (a:Hs G h L) [e:dZ (jL C p) L m L'] (f:∀c,Hs G c (jL C p m::L')->Q (I<|m.phase g) c):JL 205 [JM p,I g] h Q:=by
 obtain⟨t,b,a⟩:=oM<|e.of a;refine cW<|dN<|cY<|aC<|aA<|aE a rfl<|W2 a<|yr rfl ?_;show Q _ _;grind[aEf,fU]
theorem aXi (a:Hs G h L) [j:dZ (jL C p) L m L'] (i:∀l e,Hs G e (jL C p m::L')->(m.phase g≠0->l=Hg ((m.run g).getD Qt))->l.length=5->l.all gU=true->Q (.tuple ⟨[.agg ⟨l⟩,.bool<|decide<|m.phase g≠0]⟩) e):JL 161 [JM p,I g] h Q:=by
 refine cW<|cT a fun q h a=>Vh (C:=C) a fun h a=>cF<|bG (fun f=>?_) fun f=>?_;refine aZ (c:=(Hg Qt)) rfl<|an a fun h a=>bC a FV (l:=(Hg Qt)) rfl rfl ?_;have:=i (Hg Qt) h a.to FQ rfl rfl;rw[cr FQ] at this;exact this;obtain⟨t,b,a⟩:=oM a;refine aC<|aA<|aE a rfl<|W2 a<|Rt rfl rfl<|Rt (m:=Hg _) rfl rfl<|an a fun h a=>bC a FV (l:=Hg _) rfl rfl ?_;have:=i _ h (fU (t:=t) (b:=b) a.to) (fun _=>rfl) rfl rfl;rw[cj f] at this;exact this
def Kf (f:Hs G h L) [s:dZ (jL C p) L m L'] (j:∀q a c i,Hs G i (H.Ug 3 q a c (m.fO.map fun k:Nat=>(k:Int))::jL C p m::L')->Q (.func (.func 303) #[] #[JM q]) i):JL 160 [JM p] h Q:=by
 obtain⟨t,b,f⟩:=oM<|s.of f;refine cW<|dN<|cY<|aC<|aA<|aE f rfl<|cW<|aZ9 f fun q h f=>?_;have f:Hs G h (aK q 0 [lC b]::mt q (169,true,1)::qX b (oJ m.eI)::aK p 0 [JM t,I C.aB,lC b]::lZ t m.eU::L'):=f.to;refine aLc rfl f fun a g h f=>?_;rw[aDn] at f ⊢;have e:(m.fO.map fun k:Nat=>I k)=(m.fO.map fun k:Nat=>(k:Int)).map I:=by rw[CB];rfl
 rw[e] at f;refine H.Pb (e:=3) FW f fun q2 h f=>?_;have f:Hs G h (aK p 0 [JM t,I C.aB,lC b]::lZ t m.eU::qX b (oJ m.eI)::H.Ug 3 q2 a g (m.fO.map fun k:Nat=>(k:Int))::L'):=f.to;exact j q2 a g _ (fU f).qS
end Go.Proofs.Z
namespace Go.Proofs.Z
open Go.Hm Go.At
variable {G:Bg} {h:AH}
variable {C:bQ}
theorem aM4 (hC:C.Ok) {mem:Nat->Ln} (j:l<C.aF) (c:Hs G h (gK G C.aF mb C mem::L)):
  ∃(b o cap:Nat) (r w:Int) (b2 o2 cp:Nat) (H:HP),Hs G h (aK mb 0 (C.enc++[.slice (some ⟨b,o,none⟩) C.bX.toNat cap])::aK b (o+(l % C.bX.toNat)*3) [I r,I w,.slice (some ⟨b2,o2,none⟩) (pV C.aF C.bX.toNat<|l % C.bX.toNat) cp]::aK b2 (o2+l/C.bX.toNat*2) (Vw<|mem l)::H::L)/\
   ∀v f M,Hs G f (aK mb 0 (C.enc++[.slice (some ⟨b,o,none⟩) C.bX.toNat cap])::aK b (o+(l % C.bX.toNat)*3) [I r,I w,.slice (some ⟨b2,o2,none⟩) (pV C.aF C.bX.toNat<|l % C.bX.toNat) cp]::aK b2 (o2+l/C.bX.toNat*2) (Vw v)::H::M)->Hs G f (gK G C.aF mb C (bA mem l v)::M):=by
 have hb:=bQ.bk hC
 obtain⟨b,o,cap,c⟩:=Af c
 have c:=(c.bE<|fH C.bX.toNat fun i=>jZ C.aF C.bX.toNat b (o+i*3) i mem).pI (l % C.bX.toNat)<|BI _ hb.2.1
 obtain⟨r,w,a,cp,c⟩:=C5 c
 have g:=Ru hb.2.1 j
 obtain⟨b2,o2,rfl,H,c,e⟩:=Hs.aI1 (cm (B:=C.bX.toNat) (i:=l % C.bX.toNat) (mem:=mem)) g<|c.bE<|eC 2 152 a cp (pV C.aF C.bX.toNat _,(List.range _).flatMap _)
 rw[aJe hb.2.1] at c
 refine⟨b,o,cap,r,w,b2,o2,cp,sp [H,sp<|((List.range C.bX.toNat).erase<|l % C.bX.toNat).map fun i=>jZ C.aF C.bX.toNat b (o+i*3) i mem,gQ G 3 205 (some ⟨b,o,none⟩) cap C.bX.toNat b o],c.to,?_⟩
 intro v f M c
 have c:=(c.bE<|sp [H,sp<|((List.range C.bX.toNat).erase<|l % C.bX.toNat).map fun i=>jZ C.aF C.bX.toNat b (o+i*3) i mem,gQ G 3 205 (some ⟨b,o,none⟩) cap C.bX.toNat b o]).Fc
 have c:=e _ _ _ rfl rfl<|c.dC (aK b2 _<|Vw v) H
 rw[Zx hb.2.1] at c
 have c:=xD<|c.sg (b:=b) (o:=o+l % C.bX.toNat*3) rfl
 exact zO (b:=b) (o:=o) (cap:=cap)<|(c.tG (i:=l % C.bX.toNat) (fun i=>jZ C.aF C.bX.toNat b (o+i*3) i mem) (fun i=>jZ C.aF C.bX.toNat b (o+i*3) i<|bA mem l v) (BI _ hb.2.1) fun i q k=>by grind[jZ,aJk]).to
def aA2 (hC:C.Ok) {w:Nat} {mem:Nat->Ln} (j:Ob G 0 iM) (a:Hs G h (gK G C.aF mb C mem::L)) (s:w<C.aF*2)
  (q:∀(b2 o2:Nat) (H:HP) c,Hs G c (aK b2 o2 (Vw<|mem<|w/2)::H::L)->(∀v c M,Hs G c (aK b2 o2 (Vw v)::H::M)->Hs G c (gK G C.aF mb C (bA mem (w/2) v)::M))->Q (.tuple ⟨[pt b2 o2<|0+w % 2*1,I 0]⟩) c):JL 70 [JM mb,I w] h Q:=by
 have hb:=bQ.bk hC
 have f:w/2<C.aF:=FQ
 obtain⟨b,o,cap,r,k,b2,o2,i,H,a,e⟩:=aM4 hC f a
 refine cW<|dN<|cY<|bW<|aC<|aA<|bC a FV (l:=C.enc) rfl rfl<|On hC j a fun h a=>?_
 rw[aac]
 refine aN rfl<|aN rfl<|aN rfl<|bZ<|aab<|bW ?_
 rw[aL]
 refine Bx hC j a f fun h a=>aN rfl<|aN rfl<|aN rfl<|bZ<|aab<|aC<|aA<|aE a rfl ?_
 have g:=Ru hb.2.1 f
 refine fK g<|kP FQ<|q _ _ (sp [aK mb 0<|C.enc++[.slice (some ⟨b,o,none⟩) C.bX.toNat cap],aK b (o+(w/2 % C.bX.toNat)*3) [I r,I k,.slice (some ⟨b2,o2,none⟩) (pV C.aF C.bX.toNat<|w/2 % C.bX.toNat) i],H]) _ a.to fun v c M a=>?_
 have a:=(a.bE<|sp [aK mb 0<|C.enc++[.slice (some ⟨b,o,none⟩) C.bX.toNat cap],aK b (o+(w/2 % C.bX.toNat)*3) [I r,I k,.slice (some ⟨b2,o2,none⟩) (pV C.aF C.bX.toNat<|w/2 % C.bX.toNat) i],H]).Fc
 exact e v c M a.to
def aZ6 (l:Ln) (w:Nat):(Vw l)[0+w % 2*1]?=some (I<|if w % 2=0 then l.1 else l.2):=by
 have:w % 2=0\/w % 2=1:=FQ
 rcases this with h|h<;>rw[h]<;>rfl
def aEz (hC:C.Ok) {w:Nat} {mem:Nat->Ln} (j:Ob G 0 iM) (c:Hs G h L) [m:dZ (gK G C.aF mb C) L mem L'] (g:w<C.aF*2)
  (i:∀f,Hs G f (gK G C.aF mb C mem::L')->Q (.tuple ⟨[I<|Jk mem w,I 0]⟩) f):JL 72 [JM mb,I w] h Q:=by
 refine cW<|aA2 hC j (m.of c) g fun k q H h c a=>aN rfl<|aN rfl<|bZ<|aab<|aC<|aE c (aZ6 _ w) ?_
 have c:=a _ _ _ c
 rw[zQ] at c
 have:=i _ c
 unfold Jk at this
 split at this
 .rename_i e;rw[bD2 e];exact this
 .rename_i e;rw[bD1 e];exact this
def O8 (hC:C.Ok) {w:Nat} {v:Int} {mem:Nat->Ln} (j:Ob G 0 iM) (a:Hs G h L) [m:dZ (gK G C.aF mb C) L mem L'] (i:w<C.aF*2)
  (g:∀f,Hs G f (gK G C.aF mb C (Fm mem w v)::L')->Q (I 0) f):JL 30 [JM mb,I w,I v] h Q:=by
 refine cW<|aA2 hC j (m.of a) i fun k q H h a c=>aN rfl<|aN rfl<|bZ<|aab<|bW<|aC ?_
 have e:w % 2=0\/w % 2=1:=FQ
 rcases e with e|e
 .rw[e];refine ax a fun h a=>?_;have a:=c (v,(mem _).2) _ _ a;exact(g _<|by unfold Fm;rw[bD2 e];exact a)
 .rw[e];refine ax a fun h a=>?_;have a:=c ((mem _).1,v) _ _ a;exact(g _<|by unfold Fm;rw[aaa];exact a)
end Go.Proofs.Z
namespace Go.Proofs.Z.A
open Go.Hm Go.At Go.Is
variable {G:Bg} {h:AH}
theorem jm {a b:Int} {l:FK} (z:l.length<1000000) (k:∀q,Hs G q (Ge G 1 e v (l.map fun x=>[I x])::L)->Q (.bool<|yT a b l) q):
  ∀(f i:Nat) (h:AH),i+f=l.length->yT a b l=yT a b (l.drop i)->Hs G h (Ge G 1 e v (l.map fun x=>[I x])::L)->Dd 28 1 [] Q [I a,I b,v,I l.length,I i] h:=by
 intro f
 induction f with
 |zero=>
  intro i h u g j
  rw[eo FQ] at g
  refine bW<|bF<|aab ?_
  have:=k _ j
  rw[g] at this
  exact this
 |succ f y=>
  intro i h u g j
  obtain⟨x,w,t⟩:=sR (l:=l) (i:=i) FQ
  rw[t] at g
  have s:yT a b (x::l.drop (i+1))=(decide _&&yT a b _):=rfl
  rw[s] at g
  refine bW<|bF<|aae<|bW<|C1 j (x:=[I x]) (by simp[w]) rfl<|bF<|bG (fun c=>?_) fun c=>qA<|bG (fun d=>?_) fun d=>?_
  .have:=k _ j;rw[g,cr FQ] at this;exact this
  .have:=k _ j;rw[g,cr FQ] at this;exact this
  .rw[cj FQ,AU] at g;exact bW<|aad<|y (i+1) h FQ g j
def Nz {a b:Int} {l:FK} (j:l.length<1000000) (g:Hs G h (Ge G 1 e v (l.map fun x=>[I x])::L)) (i:∀f,Hs G f (Ge G 1 e v (l.map fun x=>[I x])::L)->Q (.bool<|yT a b l) f):JL 28 [I a,I b,v] h Q:=by
 obtain⟨q,tc,k⟩:=Dt g;refine cW ?_;have c:=jm j i l.length 0 h FQ rfl g;rw[k] at c ⊢;simp only[k6] at c ⊢;exact dB c
theorem wW {g:Addr} {a b:Int} (c:Hs G h (eC 1 e (some g) 1 (1,[I x])::L)) (i:∀f,Hs G f L->Q (.bool<|decide<|a<=x/\x<=b) f):JL 28 [I a,I b,.slice (some g) 1 1] h Q:=by
 have c:=aLe (l:=[x].map fun x=>[I x]) FW rfl rfl c;refine Nz FW c fun f c=>?_;have:=i _ c.tail;grind[yT,decide]
def jr {c o t:Int} (f:Hs G h L) (e:∀j,Hs G j L->Q (.tuple ⟨[I (jK c w o t).1,.bool (jK c w o t).2.1,I (jK c w o t).2.2]⟩) j):JL 73 [I c,I w,I o,I t] h Q:=by
 refine cW<|aZ (c:=[I w]) rfl<|eA f rfl rfl rfl fun a h f=>wW f fun h f=>cZ<|fR<|bG (fun q=>?_) fun q=>?_;rotate_left;have:=e _ f;unfold jK at this;rw[aac] at this;exact this;refine aZ (c:=[I o]) rfl<|eA f rfl rfl rfl fun a h f=>wW f fun h f=>cZ<|fR<|bG (fun s=>?_) fun s=>?_;rotate_left;have:=e _ f;unfold jK at this;rw[aac] at this;exact this;unfold jK at e;rw[aaa] at e;refine bW<|cF<|bG (fun g=>?_) fun n1=>bW<|cF<|bG (fun g=>?_) fun i=>bW<|cF<|bG (fun g=>?_) fun k=>bW<|cF<|bG (fun g=>?_) fun u=>?_;rw[bD2 g] at e;refine bW<|bZ<|bG (fun g1=>?_) fun g1=>?_;rw[bD2 g1] at e;exact e _ f;rw[bD1 g1] at e;refine bW<|bZ<|bG (fun g2=>?_) fun g2=>?_;rw[bD2 g2] at e;exact e _ f;rw[bD1 g2] at e;refine bW<|aZ (c:=[I t]) rfl<|eA f rfl rfl rfl fun a h f=>wW f fun h f=>cZ<|fR<|bG (fun g3=>?_) fun g3=>?_;rw[aaa] at e;exact e _ f;rw[aac] at e;exact e _ f;rw[bD1 n1,bD2 g] at e;refine bW<|cF<|bG (fun g1=>?_) fun g1=>?_;rw[bD2 g1] at e;exact e _ f;rw[bD1 g1] at e;refine bW<|bZ<|bG (fun g2=>bZ<|bG (fun g3=>?_) fun g3=>?_) fun g2=>?_;rw[aac] at e;exact e _ f;rw[aaa] at e;exact e _ f;rw[aaa] at e;exact e _ f;rw[bD1 n1,bD1 i,bD2 g] at e;refine bW<|cF<|bG (fun g1=>?_) fun g1=>bZ<|bG (fun g2=>?_) fun g2=>?_;rw[aac] at e;exact e _ f;rw[aac] at e;exact e _ f;rw[aaa] at e;refine bW<|aZ (c:=[I t]) rfl<|eA f rfl rfl rfl fun a h f=>wW f fun h f=>cZ<|fR<|bG (fun g3=>cF<|bG (fun g4=>?_) fun g4=>?_) fun g3=>?_;rw[aac] at e;exact e _ f;rw[aaa] at e;exact e _ f;rw[aac] at e;exact e _ f;rw[bD1 n1,bD1 i,bD1 k,bD2 g] at e;refine bW<|cF<|bG (fun g1=>?_) fun g1=>?_;rw[bD2 g1] at e;exact e _ f;rw[bD1 g1] at e;refine bW<|bZ<|bG (fun g2=>?_) fun g2=>?_;rw[bD2 g2] at e;exact e _ f;rw[bD1 g2] at e;exact e _ f;rw[bD1 n1,bD1 i,bD1 k,bD1 u] at e;exact e _ f
def C7 (p:IW):FJ:=p.flatMap iW.enc
theorem aAm {p:IW} (c:i<p.length):((C7 p).drop<|i*4).take 4=(p.getD i ⟨0,0,0,0⟩).enc:=by
 have a:=(E9 (W:=4) (l:=p.map iW.enc) (i:=i) (x:=(p.getD i ⟨0,0,0,0⟩).enc) (by simp[iW.enc]) FR).1;rw[<-a];rfl
theorem aNq {p:IW} (c:i<p.length):(C7 p)[i*4+0]?=some (I (p.getD i ⟨0,0,0,0⟩).op):=by
 have a:=aAm c;have e:(((C7 p).drop<|i*4).take 4)[0]?=some (I (p.getD i ⟨0,0,0,0⟩).op):=by rw[a];rfl
 grind
variable {s:aQ}
def sU (a:0<=r) (c:r<4):(s.core++[v])[0+0+0+r.toNat*1]?=some (I<|s.dK r.toNat):=by
 have:r=0\/r=1\/r=2\/r=3:=FQ
 rcases this with rfl|rfl|rfl|rfl<;>rfl
def aHv (a:0<=r) (c:r<4):bM (s.core++[v]) (0+0+0+r.toNat*1) [I x]=(s.dL r x).core++[v]:=by
 have:r=0\/r=1\/r=2\/r=3:=FQ
 rcases this with rfl|rfl|rfl|rfl<;>rfl
def B5 {k:AH->Prop} (a:Hs G h L) [m:dZ (aK b q) L (s.core++[v]) L'] (e:0<=r) (f:r<4) (g:∀c,Hs G c (aK b q ((s.dL r x).core++[v])::L')->k c):cC (Ar h 1 (pt b q<|0+0+0+r.toNat*1)<|I x) k:=by
 refine cG a rfl ?_ rfl rfl fun h a=>g h ?_;have:r=0\/r=1\/r=2\/r=3:=FQ
 rcases this with rfl|rfl|rfl|rfl<;>rfl;rw[aHv e f] at a;exact a
def Nf {at':Int} (k:0<=at') (f:Hs G h (aK b q (s.core++[.slice a s.prog.length c])::eC 4 55 a c (s.prog.length,C7 s.prog)::L))
  (j:∀i,Hs G i (aK b q ((s.jA at').core++[.slice a s.prog.length c])::eC 4 55 a c (s.prog.length,C7 s.prog)::L)->Q (.tuple ⟨[]⟩) i):JL 33 [pt b q 0,I at'] h Q:=by
 refine cW<|aC<|aA<|aA<|ax f fun h f=>aC<|aA<|aE f rfl<|dB<|fV<|bG (fun g=>?_) fun g=>?_
 .refine aC (aA<|aA<|ax f fun h f=>(j _ ?_));have e:s.jA at'={s with at':=at',over:=true}:=by unfold aQ.jA G7;rw[bD2 g]
  rw[e]
  exact f
 .obtain⟨n,rfl⟩:∃n:Nat,at'=n:=⟨at'.toNat,FQ⟩;refine aC<|aA<|aE f rfl<|aJs (e:=55) f FQ (aNq FQ)<|cF<|aC<|aA<|aA<|ax f fun h f=>(j _ ?_);have e:s.jA n={s with at':=n,over:=decide ((s.prog.getD n ⟨0,0,0,0⟩).op=11)}:=by unfold aQ.jA G7;rw[bD1 g];rfl
  rw[e]
  exact f
end Go.Proofs.Z.A
namespace Go.Proofs.Z
open Go.Hm Go.At Go.Mc
variable {m:Mon}
theorem yC {g:Nat}:g∈m.fO↔g<16/\(m.eI g).isSome:=by grind[Mon.fO]
variable {G:Bg} {h:AH} {C:bQ}
def Ig (e:Hs G h L) [f:dZ (lZ t) L m.eU L'] (c:∀a,Hs G a (lZ t m.eU::L')->Q (if m.kJ g then .tuple ⟨[.agg ⟨(m.jX g).enc⟩,I 0]⟩ else .tuple ⟨[.agg ⟨qF.enc⟩,I 10]⟩) a):JL 51 [JM t,I g] h Q:=
 aE4 e c
abbrev aGd (C:bQ) (m:Mon) (p p2 p3 f p5:Nat) (a:Mc.Np) (e:Nat->Value) (d l:Nat) (st:LoopState×Option Code) (b:Bool) (c:Int) (pr:Prop):HP:=
 sp [Dw pr,pD Pr 165 (qK 1018) 113 e d l st,sp [aK p2 0 [JM p],aK p3 0 a.enc,aK f 0 [.bool b],aK p5 0 [I c]],jL C p m]
set_option maxHeartbeats 600000 in
theorem x8 {a:Mc.Np} (hC:C.Ok) (hm:jE C m) (s:Hs G h L) [mm:dZ (jL C p) L m L'] (u:∀N,Hs G N (jL C p (m.call C.aB a).1::L')->Q (.tuple ⟨[.bool (m.call C.aB a).2.1,I (m.call C.aB a).2.2]⟩) N):JL 165 [JM p,.agg ⟨a.enc⟩] h Q:=by
 have hc:=hC.1;have ε:=hC.2.1;have δ:=hm.len;have s:=mm.of s;rw[Mon.call] at u;refine cW<|fB s fun z h s=>fB s fun B h s=>cT s fun w h s=>cT s fun y h s=>aE s rfl<|dN<|cY ?_;have bad:∀{h:AH} {M:IU} (e:Int),[F5 M (jL C p m::L')]->Hs G h (aK w 0 [.bool false]::aK y 0 [I 0]::M)->(∀N,Hs G N (jL C p m::L')->Q (.tuple ⟨[.bool false,I e]⟩) N)->
   cC (Ar h 1 (JM w)<|.bool false) fun O=>cC (Ar O 1 (JM y)<|I e) fun h6=>cC (dO [] h6) fun T=>cC (vZ T<|JM w) fun v8=>cC (vZ T<|JM y) fun v9=>Q (.tuple ⟨[v8,v9]⟩) T:=by
  intro h M e _ s hq
  exact an s fun h s=>an s fun h s=>nU<|aE s rfl<|aE s rfl<|hq _ s.to
 have⟨t,b,s⟩:=oM<|s.bE<|jL C p m;have D:∀{h:AH} {M:IU},Hs G h (aK p 0 _::lZ t m.eU::qX b _::M)->Hs G h (jL C p m::M):=fun s=>fU s;refine bW<|bI s fun r1 h s=>aA<|aE s rfl<|bF<|bG (fun h1=>?_) fun h1=>?_;rw[aac] at u;exact bad (M:=jL C p m::L') 1 (D<|s.dV _ _ _).to u;refine aA<|aE s rfl<|aE s rfl<|aC<|aA<|aE s rfl<|fV<|bG (fun h2=>?_) fun h2=>?_;rw[aac] at u;exact bad (M:=jL C p m::L') 1 (D<|s.dV _ _ _).to u;rw[aaa] at u;refine bW<|bI s fun r2 h s=>aE s rfl<|aC<|aA<|aE s rfl<|aA<|aE s rfl<|Ig s fun h s=>?_;by_cases J:m.kJ a.aR;rotate_left;rw[bD1 J];rw[bD2 J] at u;refine aN rfl<|aN rfl<|nI s rfl rfl fun F h s=>an s fun h s=>dT (aN rfl lG)<|bZ<|aae ?_;exact bad (M:=jL C p m::L') 10 (D<|s.dV _ _ _).to u;rw[bD2 J];rw[bD1 FR] at u;have α:=hm.jX J;have U:0<=a.aR/\a.aR<C.aM:=by rw[Mon.kJ] at J;omega
 refine aN rfl<|aN rfl<|nI s rfl rfl fun F h s=>an s fun h s=>dT (aN rfl lG)<|bZ<|aab ?_;have s:=D<|s.dV _ _ _;refine bW<|aE s rfl<|aA<|aE s rfl<|Vh (C:=C) s fun h s=>bZ<|bG (fun S=>?_) fun S=>?_;rw[bD2 S] at u;exact bad (M:=jL C p m::L') 17 s.to u;rw[bD1 S] at u;refine bW<|aE s rfl<|Kf (C:=C) s fun q qa qc h s=>nY s fun d h s=>fun e he=>rK s fun l h s=>xU rfl ?_;have s:Hs G h (H.Ug 3 q qa qc (m.fO.map fun k:Nat=>(k:Int))::aGd C m p z B w y a e d l (.ready,none) false 0 (∀g∈([]:FK),m.qR a.core g.toNat=false)::sp [mk d (),aK F 0 (m.jX a.aR).enc]::L'):=by
  have s:=(s.dC (mk d ())<|aK F 0 (m.jX a.aR).enc).F6;have s:=(s.rL (aK z 0 [JM p]) (aK B 0 a.enc) (aK w 0 [.bool false])<|aK y 0 [I 0]).Rx;have s:=s.dV (pD Pr 165 (qK 1018) 113 e d l (.ready,none)) (sp [aK z 0 [JM p],aK B 0 a.enc,aK w 0 [.bool false],aK y 0 [I 0]])<|jL C p m;have s:=Hs.Rx<|Hs.dm (p:=∀g∈([]:FK),m.qR a.core g.toNat=false) FW s;exact s.to
 refine(H.Hb HI).No
  (X:=fun done=>aGd C m p z B w y a e d l (.ready,none) false 0 (∀g∈done,m.qR a.core g.toNat=false)) (Z:=fun _ x=>aGd C m p z B w y a e d l (.done,some .ret) false 13<|x∈(m.fO.map fun k:Nat=>(k:Int))/\m.qR a.core x.toNat=true) s ?_ ?_ ?_
 .intro done x h M hp s;have⟨hd,s⟩:=kK s;have s:=s.Fc;obtain⟨k,Y,rfl⟩:∃k∈m.fO,(k:Int)=x:=by
   obtain⟨ys,γ⟩:=hp;have:x∈m.fO.map fun k:Nat=>(k:Int):=by rw[<-γ];simp
   grind
  have⟨r,hr⟩:=c7.1 (yC.1 Y).2;have β:m.run (k:Int)=some r:=by rw[Mon.run];rw[aac];exact hr
  have s:=(s.bE<|sp [aK z 0 [JM p],aK B 0 a.enc,aK w 0 [.bool false],aK y 0 [I 0]]).un4;refine rW (yJ s) he<|kV s fun h s=>bI s fun rr h s=>?_;have⟨t,b,s⟩:=oM<|s.bE<|jL C p m;refine aE s rfl<|aC<|aA<|aE s rfl<|W2 s ?_;rw[β];refine Rt rfl rfl<|Rt (m:=Hg r) rfl rfl<|yr rfl<|aA<|aE s rfl<|cF<|bG (fun c1=>?_) fun c1=>?_;refine an s fun h s=>an s fun h s=>lM s fun h s=> .inr ⟨rfl,?_⟩;have s:=fU<|s.dV (aK p 0 [JM t,I C.aB,lC b]) (lZ t m.eU) _;have s:=(s.rL (aK z 0 [JM p]) (aK B 0 a.enc) (aK w 0 [.bool false])<|aK y 0 [I 13]).Rx;refine(Hs.Rx<|Hs.dm (p:=((k:Int)∈(m.fO.map fun k:Nat=>(k:Int))/\m.qR a.core ((k:Int)).toNat=true)) ⟨FR,?_⟩<|s.dV (pD Pr 165 (qK 1018) 113 e d l (.done,some .ret)) (sp [aK z 0 [JM p],aK B 0 a.enc,aK w 0 [.bool false],aK y 0 [I 13]])<|jL C p m).to;grind[Mon.qR,Int.toNat_natCast,decide_eq_true]
  .refine lM s fun h s=> .inl ⟨rfl,?_⟩;have s:=fU<|s.dV (aK p 0 [JM t,I C.aB,lC b]) (lZ t m.eU) _;have s:=(s.rL (aK z 0 [JM p]) (aK B 0 a.enc) (aK w 0 [.bool false])<|aK y 0 [I 0]).Rx;refine(Hs.Rx<|Hs.dm (p:=∀g∈done++[((k:Nat):Int)],m.qR a.core g.toNat=false) ?_<|s.dV (pD Pr 165 (qK 1018) 113 e d l (.ready,none)) (sp [aK z 0 [JM p],aK B 0 a.enc,aK w 0 [.bool false],aK y 0 [I 0]])<|jL C p m).to;grind[List.mem_singleton,Int.toNat_natCast,Mon.qR,decide_eq_false]
 .intro v h s;have⟨hd,s⟩:=kK<|s.bE<|aGd C m p z B w y a e d l (.ready,none) false 0 (∀g∈m.fO.map (fun k:Nat=>(k:Int)),m.qR a.core g.toNat=false);have s:=s.Fc;have ζ:m.gZ a.core=false:=by
   rw[Mon.gZ];rw[DH];intro g R;have:=hd g<|gk.2 ⟨g,R,rfl⟩;rw[aL] at this;rw[this];simp
  rw[bD1 FR] at u;have s:=(s.bE<|sp [aK z 0 [JM p],aK B 0 a.enc,aK w 0 [.bool false],aK y 0 [I 0]]).un4;have s:=(s.bE<|sp [mk d (),aK F 0 (m.jX a.aR).enc]).A7;refine rD s fun h s=>rF<|aA<|aE s rfl<|aA<|aE s rfl<|aA<|aE s rfl<|aA<|aE s rfl<|A.jr s fun h s=>?_;dsimp only at u;have W:0<=(jK a.call a.aY (m.jX a.aR).owner a.to).1/\(jK a.call a.aY (m.jX a.aR).owner a.to).1<=4:=by
   rw[jK];repeat' split
   all_goals grind
  generalize jK a.call a.aY _ a.to=jj at u W ⊢;refine aN rfl<|aN rfl<|aN rfl<|bZ<|bG (fun O=>?_) fun O=>?_;rw[bD2 O] at u;refine an s fun h s=>an s fun h s=>qQ s fun h s=>nU<|aE s rfl<|aE s rfl<|u _ s.to;rw[bD1 O] at u;have⟨t,b,s⟩:=oM<|s.bE<|jL C p m;refine bW<|bI s fun rr h s=>aE s rfl<|aC<|aA<|aE s rfl<|aA<|aE s rfl<|aA<|aE s rfl<|aZ (c:=(⟨(m.jX a.aR).owner,true⟩:mV).enc) rfl<|Om s fun h s=>?_;have E:(0<=a.aR/\a.aR<m.eU.length)/\(0<=(m.jX a.aR).owner/\(m.jX a.aR).owner<=4):=⟨J,α⟩;rw[bD2 E] at s;rw[bD2 E];refine bZ<|aab<|bW<|am B s (l:=a.enc) rfl rfl<|aZ (c:=[I a.core,I a.aY,I a.call,I a.aR,I a.to,I jj.1,.bool jj.2.1]) rfl<|aZ (c:=(⟨a.core,a.aY,a.call,a.aR,a.to,jj.1,jj.2.1,1,fun _=>false⟩:Mc.mP).enc) rfl<|cT s fun pr h s=>an (b:=pr) s fun h s=>ai z s rfl<|aC<|aA<|ai p s rfl ?_;have loop:∀(k i:Nat) (h:AH),i+k=C.aB.toNat->Hs G h (aK pr 0 (⟨a.core,a.aY,a.call,a.aR,a.to,jj.1,jj.2.1,1,fun j=>decide<|j<i⟩:Mc.mP).enc::aK p 0 [JM t,I C.aB,lC b]::lZ t (m.eU.set a.aR.toNat ⟨(m.jX a.aR).owner,true⟩)::qX b (oJ m.eI)::aK z 0 [JM p]::aK B 0 a.enc::aK w 0 [.bool false]::aK y 0 [I 0]::mk d ()::L')->
    Dd 165 8 [d] Q [JM z,JM B,JM w,JM y,JM pr,I C.aB,I i] h:=by
   intro k
   induction k with
   |zero=>
    intro i h hi s
    refine bW<|bF<|aab<|bW<|bI s fun rr h s=>aE s rfl<|aC<|aA<|aE s rfl<|aA<|aE s rfl<|bC s FV (l:=(⟨_,_,_,_,a.to,jj.1,_,1,fun j=>decide _⟩:Mc.mP).enc) rfl rfl ?_
    obtain⟨g,R⟩:=ay U.1
    rw[show(a.aR)=((g:Nat):Int) from R]
    refine Z1 s FQ fun h s=>?_
    rw[<-R] at s
    refine an s fun h s=>an s fun h s=>qQ s fun h s=>nU<|aE s rfl<|aE s rfl<|u _ ?_
    have hw:(⟨a.core,a.aY,a.call,a.aR,a.to,jj.1,jj.2.1,1,fun j=>decide<|j<i⟩:Mc.mP)=a.run C.aB jj:=by
     rw[Np.run];congr 1;funext j;exact FR
    have e1:=Nx (f:=m.eI) (g:=g) (x:=some<|a.run C.aB jj)
    rw[xa] at e1
    have s:=s.dV (aK p 0 [JM t,I C.aB,lC b]) (lZ t<|m.eU.set a.aR.toNat ⟨(m.jX a.aR).owner,true⟩)<|qX b<|T7 (oJ m.eI) g<|some<|.agg ⟨(⟨a.core,a.aY,a.call,a.aR,a.to,jj.1,jj.2.1,1,fun j=>decide<|j<i⟩:Mc.mP).enc⟩
    rw[hw,e1] at s
    have V:g=a.aR.toNat:=FQ
    rw[V] at s
    exact(fU (m:=(m.oL a.aR.toNat _).dL a.aR.toNat _) s).to
   |succ k ih=>
    intro i h hi s
    refine bW<|bF<|aae<|bW<|aA<|kP FQ ?_
    have hl:(⟨a.core,a.aY,a.call,a.aR,a.to,jj.1,jj.2.1,1,fun j=>decide<|j<i⟩:Mc.mP).enc.length=12:=rfl
    refine cG s rfl (by grind[Nat.ble_eq_true_of_le]) rfl rfl fun h s=>aad<|ih (i+1) h FQ ?_
    have e:bM (⟨a.core,a.aY,a.call,a.aR,a.to,jj.1,jj.2.1,1,fun j=>decide<|j<i⟩:Mc.mP).enc (0+8+i*1) [.bool true]=(⟨a.core,a.aY,a.call,a.aR,a.to,jj.1,jj.2.1,1,fun j=>decide<|j<i+1⟩:Mc.mP).enc:=by
     have:i=0\/i=1\/i=2\/i=3:=FQ
     rcases this with rfl|rfl|rfl|rfl<;>rfl
    grind
  apply loop C.aB.toNat 0 h FQ;have e:(⟨_,_,_,_,a.to,jj.1,_,1,fun _=>false⟩:Mc.mP).enc=(⟨a.core,a.aY,a.call,a.aR,a.to,jj.1,jj.2.1,1,fun j=>decide<|j<0⟩:Mc.mP).enc:=rfl;rw[e] at s;exact s.to
 .intro done x v h hp s;have⟨hd,s⟩:=kK<|s.bE<|aGd C m p z B w y a e d l (.done,some .ret) false 13<|x∈(m.fO.map fun k:Nat=>(k:Int))/\m.qR a.core x.toNat=true;have s:=s.Fc;have P:m.gZ a.core=true:=by
   rw[Mon.gZ];rw[ES];have⟨k,hk1,hk2⟩:=gk.1 hd.1;refine⟨k,hk1,?_⟩;have:=hd.2;rw[<-hk2,aL] at this;exact this
  rw[bD2 P] at u;have s:=(s.bE<|sp [aK z 0 [JM p],aK B 0 a.enc,aK w 0 [.bool false],aK y 0 [I 13]]).un4;have s:=(s.bE<|sp [mk d (),aK F 0 (m.jX a.aR).enc]).A7;refine K4 s fun h s=>aLo<|qQ s fun h s=>nU<|aE s rfl<|aE s rfl<|u _ s.to
end Go.Proofs.Z
namespace Go.Proofs.Z.A
open Go.Hm Go.At Go.Is
variable {G:Bg} {h:AH}
def aGk (mem:Nat->Ln) (done:FL):Nat->Ln:=done.foldl (fun m l=>bA m l (0,0)) mem
abbrev scX (G:Bg) (C:bQ) (mb p2:Nat) (mem:Nat->Ln) (e:Nat->Value) (d l:Nat) (done:FL):HP:=sp [pD Pr 74 (qK 122) 34 e d l (.ready,none),aK p2 0 [JM mb],gK G C.aF mb C<|aGk mem done]
theorem kz {C:bQ} (hC:C.Ok) {g:Nat} {mem:Nat->Ln} (s:Ob G 0 iM) (a:Hs G h L) [m:dZ (gK G C.aF mb C) L mem L'] (w:(g:Int)<C.aM)
  (z:∀v k,Hs G k (gK G C.aF mb C (oD mem g)::L')->Q v k):JL 74 [JM mb,I g] h Q:=by
 have hb:C.aM<=16:=hC.2.1.2
 have A:=bQ.fF hC
 have a:=m.of a
 refine cW<|fB a fun f h a=>cT a fun j h a=>aE a rfl<|dN<|cY<|bW<|bF<|aab ?_
 obtain⟨b,o,cap,a⟩:=Af<|a.bE<|gK G C.aF mb C mem
 refine aE a rfl<|aC<|aA<|aA<|aE a rfl<|fV<|aab<|bW<|aE a rfl<|aC<|aA<|bC a FV (l:=C.enc) rfl rfl<|Kq a fun p q h a=>nY a fun d h a=>?_
 have a:=T5 C.aF mb C mem b o cap a
 intro e x
 refine rK a fun l h a=>xU rfl ?_
 have a:Hs G h (sp [aK p 0 C.enc,aK q 0 [I g]]::scX G C mb f mem e d l []::sp [aK j 0 [I 0],mk d ()]::L'):=by
  have a:=a.dV (pD Pr 74 (qK 122) 34 e d l (.ready,none)) (aK f 0 [JM mb])<|gK G C.aF mb C mem;have a:Hs G h (scX G C mb f mem e d l []::_):=a.Vy;have a:=(a.dC (aK j 0 [I 0])<|mk d ()).F6;exact a.dV _ _ _
 refine(Pe hC w s).No (Z:=fun _ _=>Dw False) a ?_ ?_ ?_
 .intro done y h M t a;have B:y<C.aF:=by
   obtain⟨D,i⟩:=t;have:y∈[g*2,g*2+1]:=by rw[<-i];simp
   simp at this;omega
  have a:=a.Fc
  refine rW (yJ a) x<|kV a fun h a=>aE a rfl<|aZ (c:=Vw (0,0)) rfl<|Ut hC s a B fun h a=>bZ<|aab<|lM a fun h a=> .inl ⟨rfl,Hs.Vy ?_⟩
  have u:aGk mem (done++[y])=bA (aGk mem done) y (0,0):=by unfold aGk;rw[DG];rfl
  rw[u]
  exact a.to
 .intro v h a;have a:=(a.bE<|scX G C mb f mem e d l [g*2,g*2+1]).Fc;refine rD a fun h a=>rF ?_;have a:=(a.bE<|sp [aK j 0 [I 0],mk d ()]).A7;refine an a fun h a=>qQ a fun h a=>nU<|aE a rfl<|z _ _ ?_;have e2:aGk mem [g*2,g*2+1]=oD mem g:=rfl;rw[e2] at a;exact a.to
 .intro done y v h t a;exact(a.bE<|Dw False).z7.1.elim
abbrev qi (pm:Nat) (C:bQ) (v:Value) (a:FM) (n c mb:Nat):HP:=aK pm 0<|C.enc++[v,.slice a n c,JM mb]
theorem aIn {o:FK} {g:Nat} (h:g<o.length):(o.map I)[g]?=some (I<|o.getD g 0):=by
 grind
variable {m:AM}
def aOq (hC:m.lD.Ok) (s:(m.dG.length:Int)=m.lD.aM) (k:Ob G 0 iM)
  (f:Hs G h (qi pm m.lD v a m.dG.length c mb::eC 1 3 a c (m.dG.length,m.dG.map I)::L))
  (g:∀j,Hs G j (qi pm m.lD v a m.dG.length c mb::eC 1 3 a c (m.dG.length,m.dG.map I)::L)->Q (.bool<|m.Nw w x) j):JL 71 [JM pm,I w,I x] h Q:=by
 have q:=bQ.fF hC
 unfold AM.Nw at g
 refine cW<|aC<|aA<|bC f FV (l:=m.lD.enc) rfl rfl<|On hC k f fun h f=>?_
 by_cases i:0<=x/\x<m.lD.aF*2
 .rw[bD2 i] at g ⊢;refine aN rfl<|aN rfl<|aN rfl<|bZ<|aab<|bW<|aC<|aA<|bC f FV (l:=m.lD.enc) rfl rfl<|ym hC FQ k f fun h f=>(aN rfl<|aN rfl<|cF<|aae<|aC<|aA<|aE f rfl<|sy (e:=3) f (aIn FQ)<|ct ?_);have:=g _ f;rw[show x.toNat/4=x.toNat/2/2 by omega] at this;exact this
 .rw[bD1 i] at g ⊢;exact aN rfl<|aN rfl<|aN rfl<|bZ<|aae<|g _ f
theorem aF8 (h:m.Nw w x=true):0<=x/\x<m.lD.aF*2:=by
 grind[AM.Nw]
theorem Oo (hC:m.lD.Ok) (y:(m.dG.length:Int)=m.lD.aM) {pv:Value} {x:iW} (z:x.op=3\/x.op=4\/x.op=5) (ha:0<=x.a/\x.a<4) (hb:0<=x.b/\x.b<4) (s:Ob G 0 iM)
  (f:Hs G h (qi pm m.lD v a m.dG.length c mb::eC 1 3 a c (m.dG.length,m.dG.map I)::gK G m.lD.aF mb m.lD m.mem::aK b q ((m.aD i).core++[pv])::L))
  (g:∀u,Hs G u (qi pm m.lD v a m.dG.length c mb::eC 1 3 a c (m.dG.length,m.dG.map I)::gK G m.lD.aF mb m.lD (m.eK i x).1.mem::aK b q (((m.eK i x).1.aD i).core++[pv])::L)->Q (.tuple ⟨[I (m.eK i x).2.1,I (m.eK i x).2.2]⟩) u):JL 34 [JM pm,pt b q 0,.agg ⟨x.enc⟩] h Q:=by
 refine cW<|fB f fun A h f=>bI f fun k h f=>(aA<|aE f rfl<|aC<|aA<|aA<|fQ hb.1 hb.2<|aE f (sU hb.1 hb.2)<|aA<|aE f rfl<|cF ?_)
 have go:Dd 34 3 [] Q [JM pm,pt b q 0,JM A,I<|(m.aD i).dK x.b.toNat] h:=by
  unfold AM.eK at g;refine bW<|aC<|aA<|aA<|aE f rfl ?_;refine aOq (a:=a) (c:=c) (mb:=mb) (v:=v) hC y s (f.dC _ _) fun h f=>cZ<|fR<|dX (fun j=>?_) fun j=>?_;rotate_left;rw[bD1<|by simp[j]] at g;exact g _ f.to;rw[bD2 j] at g;have D:=aF8 j;generalize B:(m.aD i).dK x.b.toNat=W at*;obtain⟨w,rfl⟩:∃w:Nat,W=w:=FR;simp only[aL] at g;refine bW<|aC<|aA<|aE f rfl ?_;refine aEz hC s f FQ fun h f=>aN rfl<|aN rfl<|bZ<|aab<|bW<|aA<|aE f rfl<|bZ<|bG (fun t=>?_) fun t=>?_;rw[bD1 t] at g;refine bW<|bI f fun k h f=>aC<|aA<|aE f rfl<|aA<|aE f rfl<|aC<|aA<|aA<|fQ ha.1 ha.2<|aE f (sU ha.1 ha.2)<|O8 hC s f FQ fun h f=>aA<|aE f rfl<|cF<|bG (fun c2=>?_) fun c2=>?_;rw[bD2 c2] at g;refine bW<|bI f fun k h f=>aA<|aE f rfl<|aC<|aA<|aA<|fQ ha.1 ha.2<|aE f (sU ha.1 ha.2)<|g _ ?_;simp only[AM.jI];exact f.to;rw[bD1 c2] at g;refine bW<|bI f fun k h f=>aA<|aE f rfl<|aC<|aA<|aA<|fQ ha.1 ha.2<|B5 f ha.1 ha.2 fun h f=>(g _ ?_);simp only[AM.jI,AM.oZ,dI];exact f.to;rw[aac] at g;refine bW<|aA<|aE f rfl<|cF<|aab ?_;refine bW<|bI f fun k h f=>aA<|aE f rfl<|aC<|aA<|aA<|fQ ha.1 ha.2<|B5 f ha.1 ha.2 fun h f=>(g _ ?_);simp only[AM.jI,AM.oZ,dI];exact f.to
 rcases z with e|e|e
 .refine aae (bW ?_);rw[cj FQ];exact gA go
 .refine aab (bW<|cF<|aae<|bW ?_);rw[cj FQ];exact gA go
 .exact aab (bW<|cF<|aab<|bW<|cF<|aae go)
theorem aOm (hC:m.lD.Ok) (A:(m.dG.length:Int)=m.lD.aM) {cl t:Int} {busy:Bool} (y:Ob G 0 iM)
  (f:Hs G h (qi pm m.lD v a m.dG.length c mb::eC 1 3 a c (m.dG.length,m.dG.map I)::gK G m.lD.aF mb m.lD m.mem::L))
  (i:∀s,Hs G s (qi pm m.lD v a m.dG.length c mb::eC 1 3 a c (m.dG.length,(m.call cl w g t busy).1.dG.map I)::gK G m.lD.aF mb m.lD (m.call cl w g t busy).1.mem::L)->Q (I (m.call cl w g t busy).2) s):JL 35 [JM pm,I cl,I w,I g,I t,.bool busy] h Q:=by
 have hb:m.lD.aM<=16:=hC.2.1.2
 unfold AM.call at i
 refine cW<|aC<|aA<|aE f rfl<|dB<|Ec FQ<|aZ (c:=[I g]) rfl<|eA f rfl rfl rfl fun z h f=>(wW f fun h j=>cZ<|fR<|bG (fun x=>?_) fun x=>?_)
 rotate_left
 .rw[aac] at i;exact i _ j
 rw[aaa] at i
 clear f
 have f:=j
 clear j
 obtain⟨n,rfl⟩:∃n:Nat,g=n:=⟨g.toNat,FQ⟩
 simp only[aL] at i
 refine bW<|dX (fun k=>?_) fun k=>?_
 .rw[bD2 k] at i;exact i _ f
 rw[bD1<|by simp[k]] at i
 refine bW<|aC<|aA<|aE f rfl<|sy (e:=3) f (aIn FQ)<|jr f fun h f=>aN rfl<|aN rfl<|aN rfl<|bZ<|bG (fun q=>?_) fun q=>?_
 .rw[bD2 q] at i;exact i _ f
 rw[bD1 q] at i
 refine bW<|aC<|aA<|aE f rfl<|aL3 (e:=3) f rfl FQ fun h f=>dX (fun u=>?_) fun u=>?_
 .rw[bD2 u] at i;refine bW<|aC<|aA<|aE f rfl<|kz hC y f FQ fun _ h f=>i _ ?_;rw[<-List.map_set] at f;simp only[AM.jI,AM.G9];exact f.to
 .rw[bD1 FR] at i;refine i _ ?_;rw[<-List.map_set] at f;simp only[AM.jI,AM.G9];exact f.to
end Go.Proofs.Z.A
end
